/- Lemmas for ReachWalkSaid, which YtfnobkfnohhmmaaGreatFinW5 proves. -/
import Derived.Test.YtfnobkfnohhmmaaGreatLift17
import Derived.ProofKit
/- Functions ar values: what a closure does is a function on trees; how one is made and called. No condition. -/
namespace Go.Lift
open Go.RowKit
variable {P : Program} {X : Js} {ops : Array Oper}
def OE : Bool × List T → D
 | (true, ts) => .e (.agg (ts.map .pure))
 | (false, ts) => .e (.one (.pure (ts.headD .nil0)))
def TW : Bool × List T → Bool
 | (true, _) => true
 | (false, ts) => match ts with | [_] => true | _ => false
theorem UI {w : World} {S : Nat → Prop} {G : Gh} {v : Value} {x : Bool × List T} (h : Hc P w G v (OE x)) (hS : ∀ β, G.S β → S β) (hx : TW x = true) : UX w S v x := by
 obtain ⟨b, ts⟩ := x
 cases b with
 | false =>
  match ts, hx with
  | [t], _ => exact ⟨t, rfl, Et.mono (show Et w G.S v t from h) (fun _ _ => rfl) hS⟩
 | true =>
  obtain ⟨vs, e, hs, h⟩ := h
  refine ⟨vs, e, by simpa using hs, fun j t hj => ?_⟩
  have : Fu P w G (AG vs j) (.pure t) := h j (.pure t) (by simp [hj])
  exact Et.mono this (fun _ _ => rfl) hS
theorem Sp {w : World} {S : Nat → Prop} {v : Value} {x : Bool × List T} (h : UX w S v x) : Hc P w (G0 S) v (OE x) := by
 obtain ⟨b, ts⟩ := x
 cases b with
 | false =>
  obtain ⟨t, rfl, h⟩ := h
  exact h
 | true =>
  obtain ⟨vs, e, hs, h⟩ := h
  refine ⟨vs, e, by simpa using hs, fun j c hj => ?_⟩
  rw [List.getElem?_map] at hj
  cases hx : ts[j]? with
  | none => rw [hx] at hj; cases hj
  | some t => rw [hx] at hj; cases hj; exact h j t hx
noncomputable def B0 {α ρ : Type} (ea : α → List (Bool × List T)) (er : ρ → T) (q : α → Option ρ) : List (Bool × List T) → Option T := fun ar =>
 open Classical in if h : ∃ x r, ea x = ar ∧ q x = some r then some (er (Classical.choose (Classical.choose_spec h))) else none
theorem I4 {α ρ : Type} {ea : α → List (Bool × List T)} {er : ρ → T} {q : α → Option ρ} {ar : List (Bool × List T)} {t : T} (h : B0 ea er q ar = some t) : ∃ x r, ar = ea x ∧ q x = some r ∧ t = er r := by
 unfold B0 at h
 split at h
 ·rename_i hx
  cases h
  have := Classical.choose_spec (Classical.choose_spec hx)
  exact ⟨_, _, this.1.symm, this.2, rfl⟩
 ·cases h
theorem ED {α ρ : Type} {ea : α → List (Bool × List T)} {er : ρ → T} {q : α → Option ρ} (inj : ∀ x y, ea x = ea y → x = y) {x : α} {r : ρ} (h : q x = some r) : B0 ea er q (ea x) = some (er r) := by
 have hx : ∃ y s, ea y = ea x ∧ q y = some s := ⟨x, r, rfl, h⟩
 unfold B0
 rw [dif_pos hx]
 have h1 := Classical.choose_spec (Classical.choose_spec hx)
 have h2 := inj _ _ h1.1
 have h3 : q (Classical.choose hx) = some r := by rw [h2]; exact h
 exact congrArg (fun z => some (er z)) (Option.some.inj (h3.symm.trans h1.2)).symm
structure SO {α β : Type} (f : α → β) : Prop where
 inj : ∀ x y, f x = f y → x = y
def PJ {α : Type} (b : Bool) (e : α → List T) (x : α) : List (Bool × List T) := [(b, e x)]
def EB {α β : Type} (b : Bool) (e : α → List T) (b' : Bool) (e' : β → List T) (x : α × β) : List (Bool × List T) := [(b, e x.1), (b', e' x.2)]
theorem OP {α : Type} (b : Bool) (e : α → List T) (h : SO e) : ∀ x y, PJ b e x = PJ b e y → x = y := by
 intro x y hxy
 simp only [PJ, List.cons.injEq, Prod.mk.injEq, true_and, and_true] at hxy
 exact h.inj _ _ hxy
theorem Fb {α β : Type} (b : Bool) (e : α → List T) (b' : Bool) (e' : β → List T) (h : SO e) (h' : SO e') : ∀ x y, EB b e b' e' x = EB b e b' e' y → x = y := by
 intro x y hxy
 simp only [EB, List.cons.injEq, Prod.mk.injEq, true_and, and_true] at hxy
 exact Prod.ext (h.inj _ _ hxy.1) (h'.inj _ _ hxy.2)
theorem K2 {α β : Type} {f : α → β} (h : ∀ x y, f x = f y → x = y) : ∀ (xs ys : List α), xs.map f = ys.map f → xs = ys
 | [], [], _ => rfl
 | [], _ :: _, e => by cases e
 | _ :: _, [], e => by cases e
 | x :: xs, y :: ys, e => by
  simp only [List.map_cons, List.cons.injEq] at e
  rw [h _ _ e.1, K2 h _ _ e.2]
theorem Tl {f : FuncId} {g : List (Bool × List T) → Option T} (hf : AL P f = true) (hclo : ∀ ar t, g ar = some t → AC P f (ar.map OE) [] (one t)) {w : World} {S : Nat → Prop} {v : Value} (h : Hc P w (G0 S) v (.e (.one (.fnc f)))) : Hc P w (G0 S) v (.e (.one (.clo g))) := by
 refine ⟨f, #[], h, ?_, ?_⟩
 ·unfold AL at hf
  split at hf
  ·rename_i fn h0
   simp only [Bool.and_eq_true, Bool.not_eq_true'] at hf
   exact ⟨fn, h0, hf.2, hf.1⟩
  ·cases hf
 ·intro w' S' _ _ hlt vs ar r0 hvs has hgr
  refine (hclo ar r0 hgr w' S' (vs ++ #[]) hlt (by simp [hvs]) ?_).mono ?_
  ·intro j d hj
   rw [List.getElem?_map] at hj
   cases hx0 : ar[j]? with
   | none => rw [hx0] at hj; cases hj
   | some y =>
    rw [hx0] at hj; cases hj
    rw [Array.append_empty]
    exact Sp (has j y hx0)
  ·rintro e w'' ⟨v, G', rfl, hbel, h1, h2, h3, _⟩
   exact ⟨v, G'.S, rfl, hbel, h1, h2, h3⟩
def VY (P : Program) : List D → List D → Prop
 | [], [] => True
 | a :: ar, b :: bs => (∀ (w : World) (S : Nat → Prop) (v : Value), Hc P w (G0 S) v a → Hc P w (G0 S) v b) ∧ VY P ar bs
 | _, _ => False
theorem VY.get : ∀ {ar bs : List D}, VY P ar bs → ar.length = bs.length ∧ ∀ (j : Nat) (b : D), bs[j]? = some b → ∃ a, ar[j]? = some a ∧ ∀ (w : World) (S : Nat → Prop) (v : Value), Hc P w (G0 S) v a → Hc P w (G0 S) v b
 | [], [], _ => ⟨rfl, fun j b h => by simp at h⟩
 | a :: ar, b :: bs, h => by
  obtain ⟨h1, h2⟩ := VY.get h.2
  refine ⟨by simp [h1], fun j c hj => ?_⟩
  cases j with
  | zero => simp at hj; subst hj; exact ⟨a, rfl, h.1⟩
  | succ j => obtain ⟨a', g1, g2⟩ := h2 j c (by simpa using hj); exact ⟨a', by simpa using g1, g2⟩
theorem AC.weak {f : FuncId} {ds ds' : List D} {rv : List (Nat × List (List T))} {res : D} (h : AC P f ds rv res) (hp : VY P ds' ds) : AC P f ds' rv res := by
 intro w S vs hS hlen hargs
 obtain ⟨h1, h2⟩ := hp.get
 refine h w S vs hS (by rw [hlen, h1]) fun j d hj => ?_
 obtain ⟨a, g1, g2⟩ := h2 j d hj
 exact g2 w S _ (hargs j a g1)
section run
variable {dr : Bool} {Q : St → Prop} {r i : Nat} {st : St} {log : List (Nat × Di)} {o : Oper} {gs : List (Operand × D)}
theorem P3 {f : FuncId} (h : AL P f = true) : ∃ fn, P.funcs[f]? = some fn ∧ fn.body.isSome = true ∧ (fn.name == "runtime.NumGoroutine") = false := by
 unfold AL at h
 split at h
 ·rename_i fn hf
  simp only [Bool.and_eq_true, Bool.not_eq_true'] at h
  exact ⟨fn, hf, h.2, h.1⟩
 ·cases h
theorem Mo {f : FuncId} {s : Nat} {xs : List Operand} {capD : List D} (g : List (Bool × List T) → Option T) (hat : At st.env ops i X.n (.makeFunc (.func f) #[] xs.toArray) s gs)
  (hf : AL P f = true) (hl : xs.length = capD.length) (hx : Gd st.env (IX xs capD)) (hpub : capD.all Ry = true)
  (hclo : ∀ ar t, g ar = some t → AC P f (ar.map OE ++ capD) [] (one t))
  (next : BA P X ops dr Q r (i + 1) (Di.upd ⟨gs ++ IX xs capD, [], some s, some (.e (.one (.clo g))), [], []⟩ st) ((i, ⟨gs ++ IX xs capD, [], some s, some (.e (.one (.clo g))), [], []⟩) :: log)) : BA P X ops dr Q (r + 1) i st log := by
 obtain ⟨o, ho, hop, hd, hn, hg, hgp⟩ := hat.out
 refine BA.step next ⟨Aw.2 ⟨hgp, hx⟩, trivial, trivial⟩ (LR.value ho hg rfl hd.symm (Eb hd hn) ?_)
 intro G st a w hs hpre
 have hx := (Aw.1 hpre.r).2
 refine ⟨.func (.func f) #[] (xs.toArray.map a.eval), w, G, ?_, hs, ?_⟩
 ·simp only [execOp, hop]
  exact Aq (a := .func (.func f) #[] (xs.toArray.map a.eval)) (w1 := w) (by simp [Instr.makeFunc]) rfl
 ·rintro d ⟨⟩
  refine ⟨⟨f, _, rfl, P3 hf, ?_⟩, fun b hb => by cases hb⟩
  intro w' S' hS' hw' hlt vs ar r0 hvs has hgr
  refine (hclo ar r0 hgr w' S' (vs ++ xs.toArray.map a.eval) hlt (by simp [hvs, hl]) ?_).mono ?_
  ·intro j d hj
   by_cases hja : j < ar.length
   ·rw [List.getElem?_append_left (by simpa using hja), List.getElem?_map] at hj
    have hx0 : ar[j]? = some ar[j] := by simp [hja]
    rw [hx0] at hj; cases hj
    rw [DD (by omega)]
    exact Sp (has j _ hx0)
   ·rw [List.getElem?_append_right (by simp; omega)] at hj
    simp only [List.length_map] at hj
    have hlt' := AS hj
    have hxj : xs[j - ar.length]? = some (xs[j - ar.length]'(by omega)) := by simp [show j - ar.length < xs.length from by omega]
    have hop' := IV hl hx _ _ d hxj hj
    have hcell : AG (vs ++ xs.toArray.map a.eval) j = a.eval (xs[j - ar.length]'(by omega)) := by
     unfold AG
     rw [Array.getElem?_append_right (by omega), hvs]
     simp [show j - ar.length < xs.length from by omega]
    rw [hcell]
    have hcl : d.names = [] := by
     have := List.all_eq_true.1 hpub d (List.mem_of_getElem? hj)
     simpa [Ry] using this
    exact ((hs.opd hop').mono (p := fun _ => False) (G' := G0 S') ⟨hS', fun _ h => h.elim, fun _ h => h.elim, fun _ h => h.elim⟩ hw' (fun b hb => by rw [hcl] at hb; cases hb))
  ·rintro e w'' ⟨v, G', rfl, hbel, h1, h2, h3, _⟩
   exact ⟨v, G'.S, rfl, hbel, h1, h2, h3⟩
theorem EE {x : Operand} {g : List (Bool × List T) → Option T} {s : Nat} {xs : List Operand} {ds0 : List D} {ar : List (Bool × List T)} {r0 : T} {ts : Array TypeId} (hat : At st.env ops i X.n (.call ⟨.value x, xs.toArray, ts⟩) s gs)
  (hgx : opd st.env x = some (.e (.one (.clo g)))) (hl : xs.length = ds0.length) (hx : Gd st.env (IX xs ds0)) (hds : ds0.map D.nrm = ar.map OE) (hpub : (ar.map OE).all Ry = true) (hok : ar.all TW = true) (hr : g ar = some r0)
  (next : BA P X ops dr Q r (i + 1) (Di.upd ⟨gs ++ ((x, .e (.one (.clo g))) :: IX xs ds0), [], some s, some (one r0), [], []⟩ st) ((i, ⟨gs ++ ((x, .e (.one (.clo g))) :: IX xs ds0), [], some s, some (one r0), [], []⟩) :: log)) : BA P X ops dr Q (r + 1) i st log := by
 obtain ⟨o, ho, hop, hd, hn, hg, hgp⟩ := hat.out
 refine BA.step next ⟨Aw.2 ⟨hgp, hgx, hx⟩, trivial, trivial⟩ ?_
 intro st a w K Q' hs hpre hK
 obtain ⟨G, hs⟩ := hs
 obtain ⟨hgx, hx⟩ := (Aw.1 hpre.r).2
 have hw := hs.wanted hg (Aw.1 hpre.r).1
 unfold wpOp
 rw [ho]
 simp only [hw, if_true]
 refine .inl ?_
 unfold Oper.wp
 obtain ⟨f, caps, hv, ⟨fn, hf1, hf2, hf3⟩, hcall⟩ : KR P w G.S (a.eval x) g := hs.opd hgx
 have hgood : AL P f = true := by unfold AL; rw [hf1]; simp [hf2]; simpa using hf3
 have hrun : (execOp a.eval o).run P w = .ok (.enter f (xs.toArray.map a.eval ++ caps)) w := by
  simp only [execOp, hop]
  simp only [resolve, hv, Deferred.ofValue]
  refine Aq (a := { target := .fn (.func f) caps, args := #[] ++ xs.toArray.map a.eval }) (w1 := w) rfl ?_
  simp only [invoke]
  rw [KV hgood]; simp
 rw [hrun]
 show Calls P f (xs.toArray.map a.eval ++ caps) w _
 have hlen : xs.length = ar.length := by
  have := congrArg List.length hds
  simp at this; omega
 refine (hcall w G.S (fun _ h => h) (fun _ _ => rfl) hs.S_lt (xs.toArray.map a.eval) ar r0 (by simp [hlen]) ?_ hr).mono ?_
 ·intro j y hj
  have hlt := AS hj
  have hd0 : ds0[j]? = some (ds0[j]'(by omega)) := by simp [show j < ds0.length from by omega]
  have hnrm : (ds0[j]'(by omega)).nrm = OE y := by
   have h1 : (ds0.map D.nrm)[j]? = (ar.map OE)[j]? := by rw [hds]
   rw [List.getElem?_map, List.getElem?_map, hd0, hj] at h1
   simpa using h1
  have hxj : xs[j]? = some (xs[j]'(by omega)) := by simp [show j < xs.length from by omega]
  have hop' := IV hl hx j _ _ hxj hd0
  have hcell : AG (xs.toArray.map a.eval) j = a.eval (xs[j]'(by omega)) := by simp [AG, show j < xs.length from by omega]
  rw [hcell]
  have hrd := (hs.opd hop').nrm
  rw [hnrm] at hrd
  exact UI hrd (fun _ h => h) (List.all_eq_true.1 hok y (List.mem_of_getElem? hj))
 ·rintro e w' ⟨v, S'', rfl, hbel, hS1, hS2, hres⟩
  show K (a.put o.dst v) w'
  rw [hd]
  let G2 : Gh := { G with S := S'' }
  have hsz := hbel.size
  have hle := hs.below.size
  have key : DT P X G2 ⟨st.env, BJ st.bx []⟩ a w' := by
   refine hs.frame (fun c hc => hc) ⟨hS1, fun _ _ => rfl, fun _ _ => rfl, fun _ _ => rfl⟩ (fun β hβ => hbel.block β (hs.S_lt β hβ)) ?_ ?_ ?_ ?_ ?_ (hs.below.trans (.of (hbel.mono hle))) (fun _ _ => ⟨rfl, rfl, rfl⟩)
   ·intro c k hc
    exact .inl ⟨hc, fun β hr hβ => hbel.block β (hs.at_ok c k β hc hr hβ).2.1⟩
   ·intro c k β hc hr hβ
    have := hs.at_ok c k β hc hr hβ
    refine ⟨this.1, by omega, fun h => ?_⟩
    rcases hS2 β h with h | h
    ·exact this.2.2 h
    ·omega
   ·intro c c' k k' β hc hc' hr hr' hβ hβ'
    exact hs.at_inj c c' k k' β hc hc' hr hr' hβ hβ'
   ·intro β h
    rcases hS2 β h with h | h
    ·have := hs.S_lt β h; omega
    ·exact h.2
   ·intro β h
    rcases hS2 β h with h | h
    ·exact hs.S_src β h
    ·exact .inr (by omega)
  refine hK _ _ ⟨G2, key.put (some s) (some (one r0)) v (by intro t e; cases e; exact hn) ?_⟩
  rintro d ⟨⟩
  exact ⟨hres, fun b hb => by cases hb⟩
end run
end Go.Lift

/- How a law's given inputs are read as trees: what a datum of plain types (numbers, bools, strings, slices and structs of them) is. No condition. -/
namespace Go.Lift
open Go.RowKit Go.ChangeShapes Go.WideShapes
section
variable {P : Program}
def KD (P : Program) : Nat → List Field → Nat → Bool
 | o, [], n => o == n
 | o, f :: fs, n => f.offset == o && KD P (o + P.cellsOf f.type) fs n
def IB (P : Program) : Nat → TypeId → Bool
 | 0, _ => false
 | d + 1, t => match P.underlying t with
  | some (.int _) => true
  | some .bool => true
  | some .string => true
  | some (.slice e) => decide (0 < P.cellsOf e) && IB P d e
  | some (.struct fs) => KD P 0 fs.toList (P.cellsOf t) && fs.toList.all fun f => IB P d f.type
  | _ => false
def Tg (F : TypeId → List T → Prop) : List TypeId → List T → Prop
 | [], ts => ts = []
 | t :: tys, ts => ∃ a b, ts = a ++ b ∧ F t a ∧ Tg F tys b
def JC (P : Program) : Nat → TypeId → List T → Prop
 | 0, _, _ => False
 | d + 1, t, ts => match P.underlying t with
  | some (.int k) => ∃ n, ts = [.val (.int k n)] ∧ (Lit.int k n).wf = true
  | some .bool => ∃ b, ts = [.val (.bool b)]
  | some .string => ∃ s, ts = [.val (.string s)]
  | some (.slice e) => ∃ rows, ts = [.sl rows] ∧ ∀ row, row ∈ rows → JC P d e row
  | some (.struct fs) => Tg (JC P d) (fs.toList.map (·.type)) ts
  | _ => False
def HN (w : World) (S : Nat → Prop) : List Value → List T → Prop
 | [], [] => True
 | v :: vs, t :: ts => Et w S v t ∧ HN w S vs ts
 | _, _ => False
theorem HN.append {w : World} {S : Nat → Prop} : ∀ {a b : List Value} {x y : List T}, HN w S a x → HN w S b y → HN w S (a ++ b) (x ++ y)
 | [], _, [], _, _, h => h
 | _ :: _, _, _ :: _, _, h1, h2 => ⟨h1.1, HN.append h1.2 h2⟩
theorem HN.len {w : World} {S : Nat → Prop} : ∀ {a : List Value} {x : List T}, HN w S a x → a.length = x.length
 | [], [], _ => rfl
 | _ :: _, _ :: _, h => by simp [h.2.len]
theorem HN.get {w : World} {S : Nat → Prop} : ∀ {a : List Value} {x : List T}, HN w S a x → ∀ (j : Nat) (t : T), x[j]? = some t → ∃ v, a[j]? = some v ∧ Et w S v t
 | [], [], _, j, t, hj => by simp at hj
 | v :: _, _ :: _, h, 0, t, hj => by simp at hj; subst hj; exact ⟨v, rfl, h.1⟩
 | _ :: _, _ :: _, h, j + 1, t, hj => by
  obtain ⟨v, h1, h2⟩ := h.2.get j t (by simpa using hj)
  exact ⟨v, by simpa using h1, h2⟩
theorem LS {α : Type} {p : Nat → α → Prop} : ∀ (n : Nat), (∀ i, i < n → ∃ x, p i x) → ∃ l : List α, l.length = n ∧ ∀ i x, l[i]? = some x → p i x
 | 0, _ => ⟨[], rfl, fun i x h => by simp at h⟩
 | n + 1, h => by
  obtain ⟨l, h1, h2⟩ := LS n (fun i hi => h i (by omega))
  obtain ⟨x, hx⟩ := h n (by omega)
  refine ⟨l ++ [x], by simp [h1], fun i y hi => ?_⟩
  by_cases hlt : i < l.length
  ·rw [List.getElem?_append_left hlt] at hi; exact h2 i y hi
  ·rw [List.getElem?_append_right (by omega)] at hi
   have : i - l.length = 0 := by
    have := AS hi
    simp at this; omega
   rw [this] at hi
   simp at hi; subst hi
   have : i = n := by omega
   subst this; exact hx
theorem Jx {α : Type} {f : Nat → Option α} : ∀ {n : Nat} {l : List α}, (List.range n).mapM f = some l → l.length = n ∧ ∀ i, i < n → f i = l[i]? := by
 intro n l h
 have h1 := mapM_some_length h
 refine ⟨by simpa using h1, fun i hi => ?_⟩
 exact mapM_some_get h i i (by simp [hi])
theorem Pu {w : World} {b o : Nat} {v : Value} (h : w.cell? ⟨b, o, none⟩ = some v) : ∃ arr el fz, w.heap[b]? = some (.cells arr el fz) ∧ arr[o]? = some v := by
 unfold World.cell? at h
 split at h
 ·rename_i c el fz hc
  exact ⟨c, el, fz, hc, by simpa using h⟩
 ·cases h
theorem ST {w : World} {b : Nat} {o : Obj} (h : w.heap[b]? = some o) : b < w.heap.size := by
 rcases Nat.lt_or_ge b w.heap.size with h1 | h1
 ·exact h1
 ·rw [Array.getElem?_eq_none h1] at h; cases h
abbrev Rl (w : World) : Nat → Prop := fun β => β < w.heap.size
theorem N3 {H : Type} {enc : TypeId × Value → H} {w : World} {sp : Nat → Bool} {held : Bool} {n d : Nat} {cs : List Value}
  (ih : ∀ (t : TypeId) (cs : List Value) (x : DataW H × List MemPlace), IB P d t = true → DataW.trod enc P w 0 sp held n t cs = some x → ∃ ts, HN w (Rl w) cs ts ∧ JC P d t ts) :
  ∀ (fs : List Field) (o : Nat), KD P o fs cs.length = true → (fs.all fun f => IB P d f.type) = true →
   (∀ f, f ∈ fs → ∃ x, DataW.trod enc P w 0 sp held n f.type ((cs.drop f.offset).take (P.cellsOf f.type)) = some x) →
   ∃ ts, HN w (Rl w) (cs.drop o) ts ∧ Tg (JC P d) (fs.map (·.type)) ts
 | [], o, hc, _, _ => by
  simp only [KD, beq_iff_eq] at hc
  refine ⟨[], ?_, rfl⟩
  rw [List.drop_eq_nil_of_le (by omega)]; trivial
 | f :: fs, o, hc, hp, hx => by
  simp only [KD, Bool.and_eq_true, beq_iff_eq] at hc
  simp only [List.all_cons, Bool.and_eq_true] at hp
  obtain ⟨x, hx0⟩ := hx f (by simp)
  rw [hc.1] at hx0
  obtain ⟨ts, h1, h2⟩ := ih _ _ _ hp.1 hx0
  obtain ⟨us, h3, h4⟩ := N3 ih fs _ hc.2 hp.2 (fun g hg => hx g (by simp [hg]))
  refine ⟨ts ++ us, ?_, ⟨ts, us, rfl, h2, h4⟩⟩
  have : cs.drop o = (cs.drop o).take (P.cellsOf f.type) ++ cs.drop (o + P.cellsOf f.type) := by
   rw [← List.drop_drop, List.take_append_drop]
  rw [this]
  exact h1.append h3
theorem Oy {H : Type} {enc : TypeId × Value → H} {w : World} {sp : Nat → Bool} {held : Bool} : ∀ (d fuel : Nat) (t : TypeId) (cs : List Value) (x : DataW H × List MemPlace), IB P d t = true → DataW.trod enc P w 0 sp held fuel t cs = some x → ∃ ts, HN w (Rl w) cs ts ∧ JC P d t ts
 | 0, _, _, _, _, hp, _ => by cases hp
 | d + 1, fuel, t, cs, x, hp, hx => by
  unfold IB at hp
  unfold JC
  split at hp
  ·rename_i k hu
   obtain ⟨n, rfl, _, hw⟩ := DataW.trod_int hu hx
   exact ⟨[.val (.int k n)], ⟨.val _ rfl, trivial⟩, n, rfl, hw⟩
  ·rename_i hu
   obtain ⟨b, rfl, _⟩ := DataW.trod_bool hu hx
   exact ⟨[.val (.bool b)], ⟨.val _ rfl, trivial⟩, b, rfl⟩
  ·rename_i hu
   obtain ⟨b, rfl, _⟩ := DataW.trod_string hu hx
   exact ⟨[.val (.string b)], ⟨.val _ rfl, trivial⟩, b, rfl⟩
  ·rename_i e hu
   simp only [Bool.and_eq_true, decide_eq_true_eq] at hp
   rcases DataW.trod_slice hu hx with ⟨rfl, _⟩ | ⟨a, len, cap, elems, rest, n, rfl, rfl, _, _, hl, _, hlen, hel, _, _⟩
   ·exact ⟨[.sl []], ⟨.nil none 0, trivial⟩, [], rfl, fun row h => by cases h⟩
   ·have hrow : ∀ i, i < len → ∃ row, ∃ csi, w.cells? 0 (a.add (i * P.cellsOf e)) (P.cellsOf e) = some csi ∧ HN w (Rl w) csi row ∧ JC P d e row := by
     intro i hi
     have h1 := hel i hi
     have h2 : elems[i]? = some (elems[i]'(by omega)) := by simp [show i < elems.length from by omega]
     rw [h2] at h1
     obtain ⟨csi, h3, h4⟩ := Option.bind_eq_some_iff.1 h1
     obtain ⟨row, h5, h6⟩ := Oy d n e csi _ hp.2 h4
     exact ⟨row, csi, h3, h5, h6⟩
    obtain ⟨rows, hrl, hrows⟩ := LS len hrow
    subst hrl
    refine ⟨[.sl rows], ⟨?_, trivial⟩, rows, rfl, fun row hm => ?_⟩
    ·cases hr0 : rows with
     | nil => exact .nil _ _
     | cons r0 rs0 =>
      rw [← hr0]
      have hpos : 0 < rows.length := by rw [hr0]; simp
      -- each cell
      have hcell : ∀ (i : Nat) (row : List T) (j : Nat) (u : T), rows[i]? = some row → row[j]? = some u → j < P.cellsOf e ∧ ∃ v, w.cell? ((a.add (i * P.cellsOf e)).add j) = some v ∧ Et w (Rl w) v u := by
       intro i row j u hi hj
       obtain ⟨csi, h1, h2, _⟩ := hrows i row hi
       obtain ⟨v, h3, h4⟩ := h2.get j u hj
       unfold World.cells? at h1
       rw [if_pos (Nat.zero_le _)] at h1
       obtain ⟨h5, h6⟩ := Jx h1
       have hjl : j < P.cellsOf e := by have := AS h3; omega
       exact ⟨hjl, v, by rw [h6 j hjl, h3], h4⟩
      have hrlen : ∀ (i : Nat) (row : List T), rows[i]? = some row → row.length = P.cellsOf e := by
       intro i row hi
       obtain ⟨csi, h1, h2, _⟩ := hrows i row hi
       unfold World.cells? at h1
       rw [if_pos (Nat.zero_le _)] at h1
       obtain ⟨h5, _⟩ := Jx h1
       rw [← h2.len, h5]
      have hget : ∀ i (hi : i < rows.length), rows[i]? = some (rows[i]'hi) := fun i hi => by simp [hi]
      have hr00 := hget 0 hpos
      have hl0 := hrlen 0 _ hr00
      obtain ⟨_, v0, hv0, _⟩ := hcell 0 _ 0 ((rows[0]'hpos)[0]'(by omega)) hr00 (by simp)
      have hadd0 : (a.add (0 * P.cellsOf e)).add 0 = a := by simp [Addr.add]
      rw [hadd0] at hv0
      have hspot := World.cell?_spot hv0
      obtain ⟨β, off, spot⟩ := a
      simp only at hspot
      subst hspot
      obtain ⟨arr, el, fz, hb, _⟩ := Pu hv0
      have hadd : ∀ i j : Nat, ((⟨β, off, none⟩ : Addr).add (i * P.cellsOf e)).add j = ⟨β, off + i * P.cellsOf e + j, none⟩ := by
       intro i j
       unfold Addr.add
       split
       ·rename_i h1
        split
        ·rename_i h2; rw [h2]; simp
        ·rename_i h2; simp only [Addr.mk.injEq, true_and, and_true]; omega
       ·split <;> simp_all <;> omega
      have hat : ∀ (i : Nat) (row : List T) (j : Nat) (u : T), rows[i]? = some row → row[j]? = some u → off + i * P.cellsOf e + j < arr.size ∧ Et w (Rl w) (AG arr (off + i * P.cellsOf e + j)) u := by
       intro i row j u hi hj
       obtain ⟨_, v, h1, h2⟩ := hcell i row j u hi hj
       rw [hadd] at h1
       obtain ⟨arr', el', fz', h3, h4⟩ := Pu h1
       rw [hb] at h3; cases h3
       have hlt : off + i * P.cellsOf e + j < arr.size := by
        rcases Nat.lt_or_ge (off + i * P.cellsOf e + j) arr.size with h | h
        ·exact h
        ·rw [Array.getElem?_eq_none h] at h4; cases h4
       refine ⟨hlt, ?_⟩
       have : AG arr (off + i * P.cellsOf e + j) = v := by unfold AG; rw [h4]; rfl
       rw [this]; exact h2
      refine .sl β off cap (P.cellsOf e) arr el fz rows (ST hb) hb hl ?_ hrlen (fun i row j u hi hj => (hat i row j u hi hj).2)
      have hil := hget (rows.length - 1) (by omega)
      have hll := hrlen _ _ hil
      have h7 := (hat (rows.length - 1) _ (P.cellsOf e - 1) ((rows[rows.length - 1]'(by omega))[P.cellsOf e - 1]'(by omega)) hil (by simp)).1
      have h8 : rows.length * P.cellsOf e = (rows.length - 1) * P.cellsOf e + P.cellsOf e := by
       rw [← Nat.succ_mul]; congr 1; omega
      omega
    ·obtain ⟨i, hi⟩ := List.mem_iff_getElem?.1 hm
     obtain ⟨_, _, _, h⟩ := hrows i row hi
     exact h
  ·rename_i fs hu
   simp only [Bool.and_eq_true] at hp
   obtain ⟨xs, n, rfl, _, hcl, hxl, hf⟩ := DataW.trod_struct hu hx
   have := N3 (enc := enc) (sp := sp) (held := held) (cs := cs) (fun t cs x h1 h2 => Oy d n t cs x h1 h2) fs.toList 0 (by rw [hcl]; exact hp.1) hp.2 (fun f hm => by
    obtain ⟨i, hi⟩ := List.mem_iff_getElem?.1 hm
    have hi' : fs[i]? = some f := by simpa using hi
    have h1 := hf i f hi'
    have hlt : i < fs.size := by
     have := AS hi
     simpa using this
    exact ⟨xs[i]'(by omega), by rw [h1]; simp [show i < xs.length from by omega]⟩)
   simpa using this
  ·cases hp
end
end Go.Lift

/- From a contract on trees to a law's own statement. No condition. -/
namespace Go.Lift
open Go.RowKit Go.ChangeShapes Go.WideShapes
section
variable {P : Program}
def TH (P : Program) (t : TypeId) (us : List T) : D := match P.underlying t with
 | some (.struct _) => .e (.agg (us.map .pure))
 | _ => .e (.one (.pure (us.headD .nil0)))
def I9 (P : Program) (d : Nat) : List TypeId → List D → Prop
 | [], [] => True
 | t :: ts, x :: xs => (∃ us, JC P d t us ∧ x = TH P t us) ∧ I9 P d ts xs
 | _, _ => False
theorem UU {H : Type} {enc : TypeId × Value → H} {w : World} {d base : Nat} {t : TypeId} {v : Value} {x : DataW H} {ps : List MemPlace} (hp : IB P d t = true) (hval : Value.okWide P w .any base t v) (h : DataW.Trod enc P w 0 (fun _ => true) true t v x ps) :
  ∃ us, JC P d t us ∧ Hc P w (G0 (Rl w)) v (TH P t us) := by
 obtain ⟨fuel, hf⟩ := h
 obtain ⟨us, h1, h2⟩ := Oy d fuel t _ _ hp hf
 refine ⟨us, h2, ?_⟩
 have single : ∀ (v : Value), v.cells.toList = [v] → HN w (Rl w) v.cells.toList us → Hc P w (G0 (Rl w)) v (.e (.one (.pure (us.headD .nil0)))) := by
  intro v hv hr
  rw [hv] at hr
  match us, hr with
  | [u], hr => exact hr.1
 unfold TH
 cases d with
 | zero => cases hp
 | succ d =>
  unfold IB at hp
  split at hp
  ·rename_i k hu
   rw [hu]
   obtain ⟨n, rfl⟩ := okWide_int hu hval
   exact single _ rfl h1
  ·rename_i hu
   rw [hu]
   obtain ⟨n, rfl⟩ := okWide_bool hu hval
   exact single _ rfl h1
  ·rename_i hu
   rw [hu]
   obtain ⟨n, rfl⟩ := okWide_string hu hval
   exact single _ rfl h1
  ·rename_i e hu
   rw [hu]
   obtain ⟨a, len, cap, rfl⟩ := okWide_slice hu hval
   exact single _ rfl h1
  ·rename_i fs hu
   rw [hu]
   simp only [Value.okWide, hu] at hval
   obtain ⟨cs, rfl, _, _⟩ := hval
   have h1 : HN w (Rl w) cs.toList us := h1
   refine ⟨cs, rfl, by simpa using h1.len, fun j c hj => ?_⟩
   rw [List.getElem?_map] at hj
   cases hx : us[j]? with
   | none => rw [hx] at hj; cases hj
   | some u =>
    rw [hx] at hj; cases hj
    obtain ⟨v, h3, h4⟩ := h1.get j u hx
    have : AG cs j = v := by unfold AG; rw [show cs[j]? = some v from by simpa using h3]; rfl
    rw [this]; exact h4
  ·cases hp
theorem QG {H : Type} {enc : TypeId × Value → H} {w : World} {d base : Nat} : ∀ {ts : List TypeId} {vs : List Value} {ds : List (DataW H)} {ps : List MemPlace}, (ts.all (IB P d)) = true → (∀ (j : Nat) t v, ts[j]? = some t → vs[j]? = some v → Value.okWide P w .any base t v) →
  DataW.TrodAll enc P w 0 (fun _ => true) true ts vs ds ps → ∃ Ds, I9 P d ts Ds ∧ vs.length = Ds.length ∧ ds.length = ts.length ∧ ∀ (j : Nat) (x : D), Ds[j]? = some x → ∃ v, vs[j]? = some v ∧ Hc P w (G0 (Rl w)) v x
 | [], [], [], _, _, _, _ => ⟨[], trivial, rfl, rfl, fun j x h => by simp at h⟩
 | t :: ts, v :: vs, x :: xs, _, hp, hval, h => by
  obtain ⟨p, q, h1, h2, _⟩ := h
  simp only [List.all_cons, Bool.and_eq_true] at hp
  obtain ⟨us, h3, h4⟩ := UU hp.1 (hval 0 t v rfl rfl) h1
  obtain ⟨Ds, h5, h6, h7, h8⟩ := QG hp.2 (fun j t v hj hv => hval (j + 1) t v (by simpa using hj) (by simpa using hv)) h2
  refine ⟨TH P t us :: Ds, ⟨⟨us, h3, rfl⟩, h5⟩, by simp [h6], by simp [h7], fun j y hj => ?_⟩
  cases j with
  | zero => simp at hj; subst hj; exact ⟨v, rfl, h4⟩
  | succ j =>
   obtain ⟨v', g1, g2⟩ := h8 j y (by simpa using hj)
   exact ⟨v', by simpa using g1, g2⟩
 | [], [], _ :: _, _, _, _, h => h.elim
 | [], _ :: _, _, _, _, _, h => by cases ‹List (DataW H)› <;> exact h.elim
 | _ :: _, [], _, _, _, _, h => by cases ‹List (DataW H)› <;> exact h.elim
 | _ :: _, _ :: _, [], _, _, _, h => h.elim
theorem Kf {H : Type} {enc : TypeId × Value → H} (hl : laidOutB P = true) {W W' : World} (hb : Below W.heap.size W W') : ∀ {ts : List TypeId} {vs : List Value} {ds : List (DataW H)} {ps : List MemPlace}, (ts.all fun t => P.readableRec t && decide (t < P.types.size)) = true →
  DataW.TrodAll enc P W 0 (fun _ => true) true ts vs ds ps → (∀ x ∈ ps, x.block < W.heap.size) → DataW.TrodAll enc P W' 0 (fun b => decide (b < W.heap.size)) true ts vs ds ps
 | [], [], [], _, _, h, _ => h
 | t :: ts, v :: vs, x :: xs, _, hr, h, hlt => by
  obtain ⟨p, q, h1, h2, rfl⟩ := h
  simp only [List.all_cons, Bool.and_eq_true, decide_eq_true_eq] at hr
  refine ⟨p, q, Below.trod hl hr.1.1 hr.1.2 h1 hb (fun y hy => hlt y (by simp [hy])), Kf hl hb (by simpa using hr.2) h2 (fun y hy => hlt y (by simp [hy])), rfl⟩
 | [], [], _ :: _, _, _, h, _ => h.elim
 | [], _ :: _, _, _, _, h, _ => by cases ‹List (DataW H)› <;> exact h.elim
 | _ :: _, [], _, _, _, h, _ => by cases ‹List (DataW H)› <;> exact h.elim
 | _ :: _, _ :: _, [], _, _, h, _ => h.elim
theorem P5 {H : Type} {enc : TypeId × Value → H} {C : Checked} {os : Os} {f : FuncId} {fn : Func} {s : ChangeSpec} {conds : List PathCond} {tb : TypeId} {d : Nat}
  (own : ownKnob C.prog.godebug = none) (started : os.Started) (noInit : C.prog.inits.idxOf? f = none) (hfn : C.prog.funcs[f]? = some fn)
  (witness : ∃ (w : World) (tape : Tape) (i : Input), w.os = os ∧ (w.forCall tape i).Shaped C.prog ∧ i.vars = [] ∧ Input.okWide C.prog (w.forCall tape i) .any w.heap.size f i ∧
   s.pre6 enc C.prog fn conds false (w.forCall tape i).memory i.args ∧ ({} : Assume).holds C.prog (lone (Frame.enter C.prog f i.args .normal) [] (w.forCall tape i)))
  (hv : s.vars = []) (hs : ∀ ds : List (DataW H), ds.length = fn.params.toList.length → s.fn H (ds ++ []) = { results := [.lit (.bool true)], args := ds })
  (hres : fn.resultTypes = #[tb]) (htb : C.prog.underlying tb = some .bool) (hl : laidOutB C.prog = true)
  (hread : (fn.params.toList.all fun t => C.prog.readableRec t && decide (t < C.prog.types.size)) = true) (hplain : (fn.params.toList.all (IB C.prog d)) = true)
  (law : ∀ Ds, I9 C.prog d fn.params.toList Ds → AC C.prog f Ds [] (.e (.one (.pure (.val (.bool true)))))) :
  ReturnsInHanded {} C os f .any (s.pre6 enc C.prog fn conds false) (s.post enc C.prog fn false true false false) := by
 refine returnsInHanded_of_change own started noInit hfn witness ?_
 intro W base args ds gs before hval hW _ _
 have hW' := hW
 obtain ⟨p, q, hA, hV, rfl, _, _⟩ := hW
 rw [hv] at hV
 obtain ⟨rfl, rfl⟩ := trodVars_none hV
 obtain ⟨Ds, h1, h2, h3, h4⟩ := QG hplain (fun j t v hj hvj => hval j t v (by simpa using hj) (by simpa using hvj)) hA
 have hlt : ∀ x ∈ p, x.block < W.heap.size := fun x hx => hW'.lt x (by simp [hx])
 refine (law Ds h1 W (Rl W) args (fun β h => h) (by simpa using h2) ?_).mono ?_
 ·intro j x hj
  obtain ⟨v, g1, g2⟩ := h4 j x hj
  have : AG args j = v := by unfold AG; rw [show args[j]? = some v from by simpa using g1]; rfl
  rw [this]; exact g2
 ·rintro e W' ⟨v, G', rfl, hb, _, _, hr, _⟩
  have hvb : v = .bool true := by
   have h5 : Et W' G'.S v (.val (.bool true)) := hr
   cases h5; rfl
  subst hvb
  refine ⟨_, rfl, ds, [], p ++ [], [], p, [], hW', ?_, ?_, ?_, hb.frame _, fun h => by cases h⟩
  ·rw [hs ds h3, hres]
   exact trodAll_mk1 (shut_bool htb true)
  ·rw [hs ds h3]
   exact Kf hl hb hread hA hlt
  ·rw [hs ds h3, hv]
   rfl
end
end Go.Lift

/- Trees of plain types as typed values. No condition. -/
namespace Go.Lift
open Go.RowKit
section
variable {P : Program}
def Rj {α : Type} (P : Program) (t : TypeId) (e : α → List T) (W : α → Prop) : Prop := ∀ (d : Nat) (ts : List T), JC P d t ts → ∃ x, ts = e x ∧ W x
theorem QE {t : TypeId} {k : IntKind} {e : Int → List T} (h : MT P t k = true) (he : ∀ n, e n = [.val (.int k n)]) : Rj P t e (fun n => (Lit.int k n).wf = true) := by
 intro d ts hf
 cases d with
 | zero => exact hf.elim
 | succ d =>
  unfold MT at h
  unfold JC at hf
  split at h
  ·rename_i k' hu
   rw [hu] at hf
   obtain ⟨n, rfl, hw⟩ := hf
   have : k' = k := by simpa using h
   subst this
   exact ⟨n, (he n).symm, hw⟩
  ·cases h
theorem Rz {t : TypeId} {e : Bool → List T} (h : Oa P t = true) (he : ∀ n, e n = [.val (.bool n)]) : Rj P t e (fun _ => True) := by
 intro d ts hf
 cases d with
 | zero => exact hf.elim
 | succ d =>
  unfold Oa at h
  unfold JC at hf
  split at h
  ·rename_i hu
   rw [hu] at hf
   obtain ⟨n, rfl⟩ := hf
   exact ⟨n, (he n).symm, trivial⟩
  ·cases h
theorem MS {α : Type} {e : α → List T} {W : α → Prop} : ∀ (rows : List (List T)), (∀ row, row ∈ rows → ∃ x, row = e x ∧ W x) → ∃ xs : List α, rows = xs.map e ∧ ∀ x, x ∈ xs → W x
 | [], _ => ⟨[], rfl, fun x h => by cases h⟩
 | r :: rows, h => by
  obtain ⟨x, rfl, hx⟩ := h r (by simp)
  obtain ⟨xs, rfl, hxs⟩ := MS rows (fun row hr => h row (by simp [hr]))
  exact ⟨x :: xs, rfl, fun y hy => by
   rcases List.mem_cons.1 hy with e | e
   ·subst e; exact hx
   ·exact hxs y e⟩
theorem NE {α : Type} {t el : TypeId} {e : α → List T} {W : α → Prop} {e2 : List α → List T} (h : sliceB P t el = true) (he : Rj P el e W) (h2 : ∀ xs, e2 xs = [.sl (xs.map e)]) : Rj P t e2 (fun xs => ∀ x, x ∈ xs → W x) := by
 intro d ts hf
 cases d with
 | zero => exact hf.elim
 | succ d =>
  unfold sliceB at h
  unfold JC at hf
  split at h
  ·rename_i e' hu
   rw [hu] at hf
   obtain ⟨rows, rfl, hr⟩ := hf
   have : e' = el := by simpa using h
   subst this
   obtain ⟨xs, rfl, hxs⟩ := MS rows (fun row hm => he d row (hr row hm))
   exact ⟨xs, (h2 xs).symm, hxs⟩
  ·cases h
def Hz (P : Program) (t : TypeId) : Option (List TypeId) := match P.underlying t with | some (.struct fs) => some (fs.toList.map (·.type)) | _ => none
theorem M0 {t : TypeId} {tys : List TypeId} (h : Hz P t = some tys) {d : Nat} {ts : List T} (hf : JC P d t ts) : ∃ d', Tg (JC P d') tys ts := by
 cases d with
 | zero => exact hf.elim
 | succ d =>
  unfold Hz at h
  unfold JC at hf
  split at h
  ·rename_i fs hu
   cases h
   rw [hu] at hf
   exact ⟨d, hf⟩
  ·cases h
theorem Qq {t : TypeId} {tys : List TypeId} (h : Hz P t = some tys) (us : List T) : TH P t us = .e (.agg (us.map .pure)) := by
 unfold Hz at h
 unfold TH
 revert h
 cases P.underlying t with
 | none => intro h; cases h
 | some k => cases k <;> intro h <;> first | rfl | cases h
theorem Tt {t : TypeId} (h : Hz P t = none) (us : List T) : TH P t us = .e (.one (.pure (us.headD .nil0))) := by
 unfold Hz at h
 unfold TH
 revert h
 cases P.underlying t with
 | none => intro _; rfl
 | some k => cases k <;> intro h <;> first | rfl | cases h
theorem K5 {d : Nat} {t : TypeId} {ts : List TypeId} {Ds : List D} (h : I9 P d (t :: ts) Ds) : ∃ us xs, Ds = TH P t us :: xs ∧ JC P d t us ∧ I9 P d ts xs := by
 cases Ds with
 | nil => exact h.elim
 | cons x xs => obtain ⟨⟨us, h1, rfl⟩, h2⟩ := h; exact ⟨us, xs, rfl, h1, h2⟩
theorem PD {d : Nat} {Ds : List D} (h : I9 P d [] Ds) : Ds = [] := by
 cases Ds with
 | nil => rfl
 | cons x xs => exact h.elim
end
end Go.Lift

/- Contracts of functions that write into blocks that they are lent, and that give back blocks of any kind. No condition. -/
namespace Go.Lift
open Go.RowKit
variable {P : Program} {X : Js} {ops : Array Oper}
instance : Inhabited BO := ⟨.gone⟩
def H5 (n m b : Nat) : Bool := if Ce b then Nat.blt (b - 90000) n else Nat.blt b m
def Qt (G : Gh) (n : Nat) (β : Nat) : Prop := ∃ k, k < n ∧ G.has (90000 + k) β
theorem Hn {k : Nat} (h : k < 1000) : Ce (90000 + k) = true := by
 unfold Ce
 rw [Nat.ble_eq_true_of_le (by omega), Nat.ble_eq_true_of_le (by omega)]; rfl
theorem I8 {b : Nat} (h : Ce b = true) : ∃ k, k < 1000 ∧ b = 90000 + k := by
 unfold Ce at h
 rw [Bool.and_eq_true] at h
 have h1 := Nat.le_of_ble_eq_true h.1
 have h2 := Nat.le_of_ble_eq_true h.2
 exact ⟨b - 90000, by omega, by omega⟩
def BI (P : Program) (f : FuncId) (args : List D) (lent : List (BO × BO)) (rv : List BO) (res : D) : Prop :=
 ∀ (w : World) (G : Gh) (vs : Array Value), (∀ β, G.S β → β < w.heap.size) →
  (∀ (k : Nat) (x : BO × BO), lent[k]? = some x → FQ P w G (90000 + k) x.1) →
  (∀ k β, k < lent.length → G.has (90000 + k) β → β < w.heap.size ∧ ¬ G.S β) →
  (∀ k l β, k < lent.length → l < lent.length → G.has (90000 + k) β → G.has (90000 + l) β → k = l) →
  vs.size = args.length → (∀ (j : Nat) (d : D), args[j]? = some d → Hc P w G (AG vs j) d) →
  Calls P f vs w fun e w' => ∃ v G', e = .returned v ∧ DN (Qt G lent.length) w.heap.size w w' ∧ (∀ β, G.S β → G'.S β) ∧ (∀ β, G'.S β → G.S β ∨ (w.heap.size ≤ β ∧ β < w'.heap.size)) ∧ Hc P w' G' v res ∧
   (∀ (k : Nat) (x : BO × BO), lent[k]? = some x → FQ P w' G' (90000 + k) x.2) ∧
   (∀ (k : Nat) (x : BO), rv[k]? = some x → FQ P w' G' k x) ∧
   (∀ k, k < lent.length → G'.loc (90000 + k) = G.loc (90000 + k) ∧ G'.hd (90000 + k) = G.hd (90000 + k) ∧ G'.more (90000 + k) = G.more (90000 + k)) ∧
   (∀ k β, k < lent.length → G'.has (90000 + k) β → ¬ G'.S β) ∧
   (∀ k β, k < rv.length → G'.has k β → w.heap.size ≤ β ∧ β < w'.heap.size ∧ ¬ G'.S β) ∧
   (∀ k l β, k < rv.length → l < rv.length → G'.has k β → G'.has l β → k = l)
def NJ (args : List D) (lent : List (BO × BO)) : St := ⟨fun s => args[s]?, fun b => if Ce b then (lent[b - 90000]?).map (·.1) else none⟩
def Ol (bx : Nat → Option BO) (f : Nat → Nat) : Nat → List (BO × BO) → Prop
 | _, [] => True
 | k, x :: xs => bx (90000 + k) = some (x.2.ren f) ∧ Ol bx f (k + 1) xs
def P4 (bx : Nat → Option BO) (f : Nat → Nat) : Nat → List BO → Prop
 | _, [] => True
 | k, x :: xs => bx (1000 + k) = some (x.ren f) ∧ P4 bx f (k + 1) xs
theorem L0 {bx : Nat → Option BO} {f : Nat → Nat} : ∀ {l : List (BO × BO)} {m : Nat}, Ol bx f m l → ∀ (k : Nat) (x : BO × BO), l[k]? = some x → bx (90000 + (m + k)) = some (x.2.ren f)
 | y :: rv, m, h, 0, x, hk => by simp at hk; subst hk; exact h.1
 | y :: rv, m, h, k + 1, x, hk => by
  have := L0 h.2 k x (by simpa using hk)
  rwa [show m + 1 + k = m + (k + 1) from by omega] at this
theorem MP {bx : Nat → Option BO} {f : Nat → Nat} : ∀ {l : List BO} {m : Nat}, P4 bx f m l → ∀ (k : Nat) (x : BO), l[k]? = some x → bx (1000 + (m + k)) = some (x.ren f)
 | y :: rv, m, h, 0, x, hk => by simp at hk; subst hk; exact h.1
 | y :: rv, m, h, k + 1, x, hk => by
  have := MP h.2 k x (by simpa using hk)
  rwa [show m + 1 + k = m + (k + 1) from by omega] at this
def J3 (b : Nat) : Nat := if Ce b then b else 1000 + b
structure R5 (P : Program) (rs : List ResultVar) (st : St) (lent : List (BO × BO)) (rv : List BO) (res : D) : Prop where
 r : ∃ xs, Wb P st rs xs ∧ Vy xs = res.ren J3
 l : Ol st.bx J3 0 lent
 v : P4 st.bx J3 0 rv
def Jk (n m : Nat) (l : List Nat) : Bool := l.all (H5 n m)
theorem Bx {f n : Nat} {fn : Func} {c : Code} {args : List D} {lent : List (BO × BO)} {rv : List BO} {res : D} {rs : List ResultVar} (hf : P.funcs[f]? = some fn) (hb : fn.body = some c) (hn : fn.ntmps = n) (hrs : fn.results.toList = rs) (hl : args.length ≤ n) (hn9 : n ≤ 90000)
  (hargs : (args.all fun d => Jk lent.length 0 d.names) = true) (hpre : (lent.all fun x => Jk lent.length 0 x.1.names && x.1.real && x.2.real) = true) (hll : lent.length ≤ 1000) (hrl : (rv.all fun x => x.real) = true) (hrn : rv.length ≤ 1000)
  (h : ∀ (w0 : World) (S0 : Nat → Prop) (GL : Gh), W P ⟨w0, S0, n, GL⟩ c (fun e st => match e with | .normal | .ret => R5 P rs st lent rv res | _ => False) (NJ args lent)) : BI P f args lent rv res := by
 subst hn; subst hrs
 intro w G vs hS hlb hla hli hlen hrd
 refine calls_of_wp hf hb ?_
 have hcell : ∀ j, j < args.length → AG (vs ++ Array.replicate (fn.ntmps - vs.size) undef) j = AG vs j := fun j hj => DD (by omega)
 -- the ghost that knows of what is lent alone
 let dom : Nat → Prop := fun b => Ce b = true ∧ b - 90000 < lent.length
 have hdec : ∀ b, Decidable (dom b) := fun b => inferInstanceAs (Decidable (_ ∧ _))
 let GL : Gh := { S := G.S, loc := fun b => if dom b then G.loc b else none, hd := fun b => if dom b then G.hd b else undef, more := fun b => if dom b then G.more b else fun _ => False }
 have hext : G.ext GL dom := ⟨fun _ h => h, fun b hb => if_pos hb, fun b hb => if_pos hb, fun b hb => if_pos hb⟩
 have hdomk : ∀ k, k < lent.length → dom (90000 + k) := fun k hk => ⟨Hn (by omega), by omega⟩
 have hin : ∀ b, H5 lent.length 0 b = true → dom b := by
  intro b hb
  unfold H5 at hb
  split at hb
  ·rename_i hl; exact ⟨hl, by rwa [Nat.blt_eq] at hb⟩
  ·simp [Nat.blt] at hb
 have hhas : ∀ b β, GL.has b β → dom b ∧ G.has b β := by
  intro b β hb
  by_cases hd : dom b
  ·exact ⟨hd, (hext.has hd).1 hb⟩
  ·exfalso
   unfold Gh.has at hb
   simp only [GL] at hb
   rw [if_neg hd, if_neg hd] at hb
   rcases hb with h | h
   ·cases h
   ·exact h
 have hlent : ∀ β, GL.lent β ↔ Qt G lent.length β := by
  intro β
  constructor
  ·rintro ⟨b, hb, hb2⟩
   obtain ⟨hd, hg⟩ := hhas b β hb2
   obtain ⟨k, _, rfl⟩ := I8 hb
   exact ⟨k, by have := hd.2; omega, hg⟩
  ·rintro ⟨k, hk, hg⟩
   exact ⟨90000 + k, Hn (by omega), (hext.has (hdomk k hk)).2 hg⟩
 have hbx : ∀ b k, (NJ args lent).bx b = some k → dom b ∧ ∃ x, lent[b - 90000]? = some x ∧ x.1 = k := by
  intro b k hk
  simp only [NJ] at hk
  split at hk
  ·rename_i hb
   cases hx : lent[b - 90000]? with
   | none => rw [hx] at hk; cases hk
   | some x => rw [hx] at hk; cases hk; exact ⟨⟨hb, AS hx⟩, x, rfl, rfl⟩
  ·cases hk
 have hdn : ∀ b, dom b → ((NJ args lent).bx b).isSome = true := by
  intro b hb
  simp only [NJ]
  rw [if_pos hb.1]
  simp [hb.2]
 have hpre' : ∀ x, x ∈ lent → Jk lent.length 0 x.1.names = true ∧ x.1.real = true ∧ x.2.real = true := fun x hx => by
  have := List.all_eq_true.1 hpre x hx
  rw [Bool.and_eq_true, Bool.and_eq_true] at this
  exact ⟨this.1.1, this.1.2, this.2⟩
 have hbk : ∀ b, dom b → b = 90000 + (b - 90000) := fun b hb => by obtain ⟨k, _, e⟩ := I8 hb.1; omega
 have hinit : DT P ⟨w, G.S, fn.ntmps, GL⟩ GL (NJ args lent) { tmps := vs ++ Array.replicate (fn.ntmps - vs.size) undef, defers := [] } w := by
  refine { S_lt := hS, S_src := fun β h => .inl h, S_0 := fun β h => h, S0_lt := hS, tsz := by simp; omega, defers := rfl, below := DN.refl _ _ _, nlt := hn9, lent := fun _ _ => ⟨rfl, rfl, rfl⟩, blk := ?_, at_ok := ?_, at_inj := ?_, env := ?_, live := ?_, liveB := ?_ }
  ·intro b k hk
   obtain ⟨hd, x, hx, rfl⟩ := hbx b k hk
   have h1 := hlb _ x hx
   rw [← hbk b hd] at h1
   exact h1.mono hext hd (fun _ _ => rfl) (fun _ _ _ => rfl) fun c hc => hin c (List.all_eq_true.1 (hpre' x (List.mem_of_getElem? hx)).1 c hc)
  ·intro b k β hk hr hβ
   obtain ⟨hd, hg⟩ := hhas b β hβ
   rw [hbk b hd] at hg
   have := hla _ β hd.2 hg
   exact ⟨⟨fun h3 => (by rw [hd.1] at h3; cases h3), .inr ⟨b, hd.1, hβ⟩⟩, this.1, this.2⟩
  ·intro b c k l β hk hl hr hr' hβ hβ'
   obtain ⟨hd, hg⟩ := hhas b β hβ
   obtain ⟨hd', hg'⟩ := hhas c β hβ'
   rw [hbk b hd] at hg
   rw [hbk c hd'] at hg'
   have := hli _ _ β hd.2 hd'.2 hg hg'
   rw [hbk b hd, hbk c hd', this]
  ·intro s d hs
   have hs' : args[s]? = some d := hs
   rw [hcell s (AS hs')]
   exact (hrd s d hs').mono hext (fun _ _ => rfl) fun b hb => hin b (List.all_eq_true.1 (List.all_eq_true.1 hargs d (List.mem_of_getElem? hs')) b hb)
  ·intro s d hs b hb
   have hs' : args[s]? = some d := hs
   exact hdn b (hin b (List.all_eq_true.1 (List.all_eq_true.1 hargs d (List.mem_of_getElem? hs')) b hb))
  ·intro b k hk c hc
   obtain ⟨hd, x, hx, rfl⟩ := hbx b k hk
   exact hdn c (hin c (List.all_eq_true.1 (hpre' x (List.mem_of_getElem? hx)).1 c hc))
 refine wp_mono (h w G.S GL _ w ⟨_, hinit⟩) ?_
 rintro e a' w' ⟨st', hq, G2, hs⟩
 have key : R5 P fn.results.toList st' lent rv res → a'.defers = [] ∧ ∃ v, (results fn a'.tmps).run P w' = .ok v w' ∧ ∃ v' G', Ending.returned v = .returned v' ∧ DN (Qt G lent.length) w.heap.size w w' ∧ (∀ β, G.S β → G'.S β) ∧ (∀ β, G'.S β → G.S β ∨ (w.heap.size ≤ β ∧ β < w'.heap.size)) ∧ Hc P w' G' v' res ∧
   (∀ (k : Nat) (x : BO × BO), lent[k]? = some x → FQ P w' G' (90000 + k) x.2) ∧
   (∀ (k : Nat) (x : BO), rv[k]? = some x → FQ P w' G' k x) ∧
   (∀ k, k < lent.length → G'.loc (90000 + k) = G.loc (90000 + k) ∧ G'.hd (90000 + k) = G.hd (90000 + k) ∧ G'.more (90000 + k) = G.more (90000 + k)) ∧
   (∀ k β, k < lent.length → G'.has (90000 + k) β → ¬ G'.S β) ∧
   (∀ k β, k < rv.length → G'.has k β → w.heap.size ≤ β ∧ β < w'.heap.size ∧ ¬ G'.S β) ∧
   (∀ k l β, k < rv.length → l < rv.length → G'.has k β → G'.has l β → k = l) := by
  rintro ⟨⟨xs, hr1, hr2⟩, hlp, hv⟩
  obtain ⟨us, h1, h2, h3⟩ := hs.rrs hr1
  have hoL : ∀ k, k < lent.length → J3 (90000 + k) = 90000 + k := fun k hk => by unfold J3; rw [Hn (by omega)]; rfl
  have hoN : ∀ k, k < rv.length → J3 k = 1000 + k := fun k hk => by unfold J3; rw [I0 (show k < 1000 by omega) (by omega)]; rfl
  have hbl : ∀ (k : Nat) (x : BO × BO), lent[k]? = some x → st'.bx (90000 + k) = some (x.2.ren J3) := fun k x hk => by
   have := L0 hlp k x hk
   rwa [Nat.zero_add] at this
  have hbv : ∀ (k : Nat) (x : BO), rv[k]? = some x → st'.bx (1000 + k) = some (x.ren J3) := fun k x hk => by
   have := MP hv k x hk
   rwa [Nat.zero_add] at this
  have hreal : ∀ (k : Nat) (x : BO), rv[k]? = some x → (x.ren J3).real = true := fun k x hk => by
   rw [IT]; exact List.all_eq_true.1 hrl x (List.mem_of_getElem? hk)
  have hgl : ∀ k, k < lent.length → G2.loc (90000 + k) = G.loc (90000 + k) ∧ G2.hd (90000 + k) = G.hd (90000 + k) ∧ G2.more (90000 + k) = G.more (90000 + k) := fun k hk => by
   obtain ⟨e1, e2, e3⟩ := hs.lent (90000 + k) (Hn (by omega))
   exact ⟨e1.trans (hext.loc _ (hdomk k hk)), e2.trans (hext.hd _ (hdomk k hk)), e3.trans (hext.more _ (hdomk k hk))⟩
  refine ⟨hs.defers, (if h : us.toArray.size = 1 then us.toArray[0] else .tuple us.toArray), ?_, _, { S := G2.S, loc := fun b => G2.loc (J3 b), hd := fun b => G2.hd (J3 b), more := fun b => G2.more (J3 b) }, rfl, ?_, hs.S_0, ?_, ?_, ?_, ?_, ?_, ?_, ?_, ?_⟩
  ·unfold results
   refine Aq (a := us.toArray) (w1 := w') ?_ rfl
   rw [Array.mapM_eq_mapM_toList]
   simp only [Sem.run_map]
   exact congrArg (fun r => Result.andThen r fun a w' => Result.ok a.toArray w') h1
  ·have hb := hs.below
   exact ⟨hb.os, hb.tape, hb.output, hb.size, fun k hk hl => hb.block k hk fun h => hl ((hlent k).1 h)⟩
  ·intro β hβ
   rcases hs.S_src β hβ with h | h
   ·exact .inl h
   ·exact .inr ⟨h, hs.S_lt β hβ⟩
  ·refine Jc (f := J3) ?_
   rw [← hr2]
   match xs, us, h2 with
   | [], [], _ => exact ⟨#[], rfl, rfl, fun j x h => by simp at h⟩
   | [x], [u], _ => exact h3 0 u x rfl rfl
   | x :: y :: xs, u :: u' :: us, hl2 =>
    refine ⟨(u :: u' :: us).toArray, by simp, by simpa using hl2, fun j z hj => ?_⟩
    have hlt := AS hj
    have hu : (u :: u' :: us)[j]? = some ((u :: u' :: us)[j]'(by rw [hl2]; exact hlt)) := by rw [List.getElem?_eq_getElem]
    have := h3 j _ z hu hj
    have hc : AG (u :: u' :: us).toArray j = (u :: u' :: us)[j]'(by rw [hl2]; exact hlt) := by
     unfold AG
     rw [List.getElem?_toArray, hu]; rfl
    rw [hc]; exact this
  ·intro k x hk
   refine Jp (f := J3) ?_
   rw [hoL k (AS hk)]
   exact hs.blk _ _ (hbl k x hk)
  ·intro k x hk
   refine Jp (f := J3) ?_
   rw [hoN k (AS hk)]
   exact hs.blk _ _ (hbv k x hk)
  ·intro k hk
   simp only [hoL k hk]
   exact hgl k hk
  ·intro k β hk hβ
   have hx : lent[k]? = some lent[k] := by simp [hk]
   have hβ : G2.has (90000 + k) β := by
    unfold Gh.has at hβ ⊢
    simp only [hoL k hk] at hβ
    exact hβ
   exact (hs.at_ok _ _ β (hbl k _ hx) (by rw [IT]; exact (hpre' _ (List.mem_of_getElem? hx)).2.2) hβ).2.2
  ·intro k β hk hβ
   have hx : rv[k]? = some rv[k] := by simp [hk]
   have hβ : G2.has (1000 + k) β := by
    unfold Gh.has at hβ ⊢
    simp only [hoN k hk] at hβ
    exact hβ
   have := hs.at_ok _ _ β (hbv k _ hx) (hreal k _ hx) hβ
   exact ⟨this.1.1 (I0 (show 1000 + k < 3000 by omega) (by omega)), this.2⟩
  ·intro k l β hk hl hβ hβ'
   have hx : rv[k]? = some rv[k] := by simp [hk]
   have hx' : rv[l]? = some rv[l] := by simp [hl]
   have hβ : G2.has (1000 + k) β := by
    unfold Gh.has at hβ ⊢
    simp only [hoN k hk] at hβ
    exact hβ
   have hβ' : G2.has (1000 + l) β := by
    unfold Gh.has at hβ' ⊢
    simp only [hoN l hl] at hβ'
    exact hβ'
   have := hs.at_inj _ _ _ _ β (hbv k _ hx) (hbv l _ hx') (hreal k _ hx) (hreal l _ hx') hβ hβ'
   omega
 cases e with
 | normal => exact key hq
 | ret => exact key hq
 | _ => exact hq.elim
def nu (ls ns : List Nat) (b : Nat) : Nat := if Ce b then ls.getD (b - 90000) 0 else ns.getD b 0
def NI (f : Nat → Nat) : List Nat → List (BO × BO) → List (Nat × BO)
 | l :: ls, x :: xs => (l, x.1.ren f) :: NI f ls xs
 | _, _ => []
def Ir (f : Nat → Nat) : List Nat → List (BO × BO) → List Bool → List (Nat × BO) → List (Nat × BO)
 | l :: ls, x :: xs, c :: cs, r => if c then (l, x.2.ren f) :: Ir f ls xs cs r else Ir f ls xs cs r
 | _, _, _, r => r
def newB (f : Nat → Nat) : List Nat → List BO → List (Nat × BO)
 | n :: ns, x :: xs => (n, x.ren f) :: newB f ns xs
 | _, _ => []
def RV : List (BO × BO) → List Bool → Prop
 | x :: xs, c :: cs => (c = false → x.1 = x.2) ∧ RV xs cs
 | [], [] => True
 | _, _ => False
theorem NO {f : Nat → Nat} {bx : Nat → Option BO} : ∀ {ls : List Nat} {lent : List (BO × BO)}, ls.length = lent.length → HA bx (NI f ls lent) → ∀ (k : Nat) (x : BO × BO), lent[k]? = some x → bx (nm ls k) = some (x.1.ren f)
 | [], [], _, _, k, y, hk => by simp at hk
 | l :: ls, x :: xs, hl, h, 0, y, hk => by simp at hk; subst hk; exact h.1
 | l :: ls, x :: xs, hl, h, k + 1, y, hk => by
  have := NO (ls := ls) (lent := xs) (by simpa using hl) h.2 k y (by simpa using hk)
  simpa [nm] using this
theorem NS {f : Nat → Nat} {bx : Nat → Option BO} {r : List (Nat × BO)} : ∀ {ls : List Nat} {lent : List (BO × BO)} {ch : List Bool}, ls.length = lent.length → ls.Nodup → RV lent ch → (∀ c, c ∈ ls → BJ bx r c = bx c) → HA bx (NI f ls lent) →
  (∀ c, c ∉ ls → BJ bx (Ir f ls lent ch r) c = BJ bx r c) ∧ ∀ (k : Nat) (x : BO × BO), lent[k]? = some x → BJ bx (Ir f ls lent ch r) (nm ls k) = some (x.2.ren f)
 | [], [], [], _, _, _, _, _ => ⟨fun _ _ => rfl, fun k x h => by simp at h⟩
 | [], [], _ :: _, _, _, h, _, _ => h.elim
 | l :: ls, x :: xs, [], hl, hnd, hc, hr, hp => by cases hc
 | l :: ls, x :: xs, c :: cs, hl, hnd, hc, hr, hp => by
  have ih := NS (f := f) (bx := bx) (r := r) (ls := ls) (lent := xs) (ch := cs) (by simpa using hl) (List.nodup_cons.1 hnd).2 hc.2 (fun c hc => hr c (by simp [hc])) hp.2
  have hln : l ∉ ls := (List.nodup_cons.1 hnd).1
  have hl0 : BJ bx (Ir f ls xs cs r) l = bx l := (ih.1 l hln).trans (hr l (by simp))
  refine ⟨fun d hd => ?_, fun k y hk => ?_⟩
  ·simp only [List.mem_cons, not_or] at hd
   simp only [Ir]
   split
   ·simp only [BJ]; rw [if_neg hd.1]; exact ih.1 d hd.2
   ·exact ih.1 d hd.2
  ·cases k with
   | zero =>
    simp at hk; subst hk
    simp only [Ir, nm, List.getD_cons_zero]
    split
    ·simp [BJ]
    ·rename_i hcc
     have hcf : c = false := by simpa using hcc
     rw [hl0, hp.1, hc.1 hcf]
   | succ k =>
    have hk' : xs[k]? = some y := by simpa using hk
    have hlt := AS hk'
    have hlt2 : k < ls.length := by simp at hl; omega
    have e : nm (l :: ls) (k + 1) = nm ls k := by simp [nm]
    rw [e]
    have hne : nm ls k ≠ l := fun h => hln (h ▸ Fp hlt2)
    simp only [Ir]
    split
    ·simp only [BJ]; rw [if_neg hne]; exact ih.2 k y hk'
    ·exact ih.2 k y hk'
theorem MB {f : Nat → Nat} {bx : Nat → Option BO} : ∀ {ns : List Nat} {rv : List BO} {c : Nat}, ns.length = rv.length → ns.Nodup →
  (c ∉ ns → BJ bx (newB f ns rv) c = bx c) ∧ ∀ (k : Nat) (x : BO), rv[k]? = some x → BJ bx (newB f ns rv) (nm ns k) = some (x.ren f)
 | [], [], c, _, _ => ⟨fun _ => rfl, fun k x h => by simp at h⟩
 | n :: ns, x :: xs, c, hl, hnd => by
  have ih := MB (f := f) (bx := bx) (ns := ns) (rv := xs) (c := c) (by simpa using hl) (List.nodup_cons.1 hnd).2
  refine ⟨fun hc => ?_, fun k y hk => ?_⟩
  ·simp only [List.mem_cons, not_or] at hc
   simp only [newB, BJ]
   rw [if_neg hc.1]; exact ih.1 hc.2
  ·cases k with
   | zero => simp at hk; subst hk; simp [newB, BJ, nm]
   | succ k =>
    have hk' : xs[k]? = some y := by simpa using hk
    have hlt := AS hk'
    have hlt2 : k < ns.length := by simp at hl; omega
    have : nm (n :: ns) (k + 1) = nm ns k := by simp [nm]
    rw [this]
    have hne : nm ns k ≠ n := fun e => (List.nodup_cons.1 hnd).1 (e ▸ Fp hlt2)
    simp only [newB, BJ]
    rw [if_neg hne]
    exact (MB (f := f) (bx := bx) (ns := ns) (rv := xs) (c := c) (by simpa using hl) (List.nodup_cons.1 hnd).2).2 k y hk'
theorem He {ls ns : List Nat} {k : Nat} (h : k < 1000) : nu ls ns (90000 + k) = nm ls k := by
 unfold nu nm; rw [Hn h, if_pos rfl, show 90000 + k - 90000 = k from by omega]
theorem Lq {ls ns : List Nat} {k : Nat} (h : k < 90000) : nu ls ns k = nm ns k := by
 unfold nu nm; rw [I0 h (Nat.le_refl _), if_neg (by simp)]
theorem Mq {bx : Nat → Option BO} {c : Nat} : ∀ {wb : List (Nat × BO)}, (bx c).isSome = true → (BJ bx wb c).isSome = true
 | [], h => h
 | p :: ps, h => by
  simp only [BJ]; split
  ·rfl
  ·exact Mq h
section run
variable {dr : Bool} {Q : St → Prop} {r i : Nat} {st : St} {log : List (Nat × Di)} {o : Oper} {gs : List (Operand × D)}
theorem Dg {f s : Nat} {xs : List Operand} {ds0 ds : List D} {lent : List (BO × BO)} {rv : List BO} {res : D} {ts : Array TypeId} (ls ns : List Nat) (ch : List Bool) (hc : BI P f ds lent rv res) (hat : At st.env ops i X.n (.call ⟨.value (.func f), xs.toArray, ts⟩) s gs)
  (hf : AL P f = true) (hl : xs.length = ds0.length) (hx : Gd st.env (IX xs ds0)) (hds : ds0.map D.nrm = ds.map (D.ren (nu ls ns)))
  (hll : ls.length = lent.length) (hln : ls.Nodup) (hlb : HA st.bx (NI (nu ls ns) ls lent)) (hns : ns.length = rv.length) (hndl : My ns) (hnew : MY st.bx ns) (hch : RV lent ch)
  (hlim : (Nat.ble lent.length 1000 && Nat.ble rv.length 1000) = true) (hre : (lent.all fun x => x.1.real && x.2.real) = true)
  (hnm : (Jk lent.length rv.length res.names && (lent.all fun x => Jk lent.length rv.length x.2.names) && rv.all fun x => Jk lent.length rv.length x.names) = true)
  (next : BA P X ops dr Q r (i + 1) (Di.upd ⟨gs ++ IX xs ds0, NI (nu ls ns) ls lent, some s, some (res.ren (nu ls ns)), Ir (nu ls ns) ls lent ch (newB (nu ls ns) ns rv), ns⟩ st) ((i, ⟨gs ++ IX xs ds0, NI (nu ls ns) ls lent, some s, some (res.ren (nu ls ns)), Ir (nu ls ns) ls lent ch (newB (nu ls ns) ns rv), ns⟩) :: log)) : BA P X ops dr Q (r + 1) i st log := by
 obtain ⟨o, ho, hop, hd, hn, hg, hgp⟩ := hat.out
 have hnd := hndl.1
 rw [Bool.and_eq_true] at hlim
 have hlim1 := Nat.le_of_ble_eq_true hlim.1
 have hlim2 := Nat.le_of_ble_eq_true hlim.2
 rw [Bool.and_eq_true, Bool.and_eq_true] at hnm
 obtain ⟨⟨hnmR, hnmL⟩, hnmV⟩ := hnm
 have hre' : ∀ x, x ∈ lent → x.1.real = true ∧ x.2.real = true := fun x hx => by
  have := List.all_eq_true.1 hre x hx
  rw [Bool.and_eq_true] at this
  exact this
 refine BA.step next ⟨Aw.2 ⟨hgp, hx⟩, hlb, hnew⟩ ?_
 intro st a w K Q' hs hpre hK
 obtain ⟨G, hs⟩ := hs
 have hx := (Aw.1 hpre.r).2
 have hw := hs.wanted hg (Aw.1 hpre.r).1
 have hnew := hpre.n
 have hlb := hpre.b
 have hnew' : ∀ c, c ∈ ns → st.bx c = none := by
  have : ∀ {l : List Nat}, MY st.bx l → ∀ c, c ∈ l → st.bx c = none := by
   intro l
   induction l with
   | nil => intro _ c hc; cases hc
   | cons b l ih =>
    intro h c hc
    rcases List.mem_cons.1 hc with e | e
    ·subst e; exact h.1
    ·exact ih h.2 c e
  exact this hnew
 have hget := fun k x hk => NO (f := nu ls ns) hll hlb k x hk
 have hlk : ∀ k, k < lent.length → st.bx (nm ls k) = some (lent[k]!.1.ren (nu ls ns)) ∧ (lent[k]!.1.ren (nu ls ns)).real = true := fun k hk => by
  have hx0 : lent[k]? = some lent[k]! := by simp [hk]
  exact ⟨hget k _ hx0, by rw [IT]; exact (hre' _ (List.mem_of_getElem? hx0)).1⟩
 have hlsns : ∀ c, c ∈ ls → c ∉ ns := fun c hc hm => by
  obtain ⟨k, hk, e⟩ := Mw hc
  have := (hlk k (by omega)).1
  rw [e, hnew' c hm] at this; cases this
 unfold wpOp
 rw [ho]
 simp only [hw, if_true]
 refine .inl ?_
 unfold Oper.wp
 have hrun : (execOp a.eval o).run P w = .ok (.enter f (xs.toArray.map a.eval)) w := by
  simp only [execOp, hop]
  exact If hf rfl
 rw [hrun]
 show Calls P f (xs.toArray.map a.eval) w _
 let Gc : Gh := { S := G.S, loc := fun b => G.loc (nu ls ns b), hd := fun b => G.hd (nu ls ns b), more := fun b => G.more (nu ls ns b) }
 have hGc : ∀ k β, k < lent.length → (Gc.has (90000 + k) β ↔ G.has (nm ls k) β) := fun k β hk => by
  unfold Gh.has; simp only [Gc]; rw [He (by omega)]
 refine (hc w Gc (xs.toArray.map a.eval) hs.S_lt ?_ ?_ ?_ ?_ ?_).mono ?_
 ·intro k x hk
  refine Jp (f := nu ls ns) ?_
  rw [He (by have := AS hk; omega)]
  exact hs.blk _ _ (hget k x hk)
 ·intro k β hk hβ
  have h1 := hlk k hk
  exact (hs.at_ok _ _ β h1.1 h1.2 ((hGc k β hk).1 hβ)).2
 ·intro k l β hk hl' hβ hβ'
  have h1 := hlk k hk
  have h2 := hlk l hl'
  have := hs.at_inj _ _ _ _ β h1.1 h2.1 h1.2 h2.2 ((hGc k β hk).1 hβ) ((hGc l β hl').1 hβ')
  exact OC hln (by omega) (by omega) this
 ·have h1 := congrArg List.length hds
  simp at h1
  simp; omega
 ·intro j d hj
  have hj2 : (ds.map (D.ren (nu ls ns)))[j]? = some (d.ren (nu ls ns)) := by rw [List.getElem?_map, hj]; rfl
  rw [← hds, List.getElem?_map] at hj2
  obtain ⟨d0, hj0, hd0⟩ : ∃ d0, ds0[j]? = some d0 ∧ d0.nrm = d.ren (nu ls ns) := by
   cases hx0 : ds0[j]? with
   | none => rw [hx0] at hj2; cases hj2
   | some d0 => rw [hx0] at hj2; exact ⟨d0, rfl, by simpa using hj2⟩
  have hlt := AS hj0
  have hxj : xs[j]? = some (xs[j]'(by omega)) := by simp [show j < xs.length from by omega]
  have hop' := IV hl hx j _ d0 hxj hj0
  have hcell : AG (xs.toArray.map a.eval) j = a.eval (xs[j]'(by omega)) := by simp [AG, show j < xs.length from by omega]
  rw [hcell]
  refine Jc (f := nu ls ns) ?_
  rw [← hd0]
  exact (hs.opd hop').nrm
 ·rintro e w' ⟨v, G', rfl, hbel, hS1, hS2, hres', hpost, hvec, hsame, hlS, hvat, hvinj⟩
  show K (a.put o.dst v) w'
  rw [hd]
  let G2 : Gh := { S := G'.S, loc := fun c => if c ∈ ns then G'.loc (ns.idxOf c) else G.loc c, hd := fun c => if c ∈ ns then G'.hd (ns.idxOf c) else G.hd c, more := fun c => if c ∈ ns then G'.more (ns.idxOf c) else G.more c }
  have hidx : ∀ k, k < ns.length → ns.idxOf (nm ns k) = k := by
   intro k hk
   have hm := Fp hk
   have h1 : ns.idxOf (nm ns k) < ns.length := List.idxOf_lt_length_of_mem hm
   refine OC hnd h1 hk ?_
   have h2 := List.getElem_idxOf h1
   show ns.getD (ns.idxOf (nm ns k)) 0 = nm ns k
   rw [List.getD_eq_getElem?_getD, List.getElem?_eq_getElem h1, Option.getD_some, h2]
  have hvia : G'.via G2 (nu ls ns) (fun b => H5 lent.length rv.length b = true) := by
   have key : ∀ b, H5 lent.length rv.length b = true → (∃ k, k < lent.length ∧ b = 90000 + k) ∨ (b < rv.length ∧ Ce b = false) := by
    intro b hb
    unfold H5 at hb
    split at hb
    ·rename_i h
     obtain ⟨k, _, rfl⟩ := I8 h
     rw [Nat.blt_eq] at hb
     exact .inl ⟨k, by omega, rfl⟩
    ·rename_i h
     rw [Nat.blt_eq] at hb
     exact .inr ⟨hb, by simpa using h⟩
   refine ⟨fun β h => h, fun b hb => ?_, fun b hb => ?_, fun b hb => ?_⟩
   ·rcases key b hb with ⟨k, hk, rfl⟩ | ⟨hb1, hb2⟩
    ·rw [He (by omega)]
     have hni : nm ls k ∉ ns := hlsns _ (Fp (by omega))
     simp only [G2]; rw [if_neg hni, (hsame k hk).1]; simp only [Gc]; rw [He (by omega)]
    ·rw [Lq (by omega)]
     simp only [G2]; rw [if_pos (Fp (by omega)), hidx b (by omega)]
   ·rcases key b hb with ⟨k, hk, rfl⟩ | ⟨hb1, hb2⟩
    ·rw [He (by omega)]
     have hni : nm ls k ∉ ns := hlsns _ (Fp (by omega))
     simp only [G2]; rw [if_neg hni, (hsame k hk).2.1]; simp only [Gc]; rw [He (by omega)]
    ·rw [Lq (by omega)]
     simp only [G2]; rw [if_pos (Fp (by omega)), hidx b (by omega)]
   ·rcases key b hb with ⟨k, hk, rfl⟩ | ⟨hb1, hb2⟩
    ·rw [He (by omega)]
     have hni : nm ls k ∉ ns := hlsns _ (Fp (by omega))
     simp only [G2]; rw [if_neg hni, (hsame k hk).2.2]; simp only [Gc]; rw [He (by omega)]
    ·rw [Lq (by omega)]
     simp only [G2]; rw [if_pos (Fp (by omega)), hidx b (by omega)]
  have hext : G.ext G2 (fun b => (st.bx b).isSome = true) := by
   have : ∀ b, (st.bx b).isSome = true → b ∉ ns := fun b hb hm => by rw [hnew' b hm] at hb; cases hb
   exact ⟨fun β h => hS1 β h, fun b hb => by simp only [G2]; rw [if_neg (this b hb)], fun b hb => by simp only [G2]; rw [if_neg (this b hb)], fun b hb => by simp only [G2]; rw [if_neg (this b hb)]⟩
  have hnotL : ∀ β, Qt Gc lent.length β → ∃ k, k < lent.length ∧ G.has (nm ls k) β := fun β ⟨k, hk, hb⟩ => ⟨k, hk, (hGc k β hk).1 hb⟩
  have hwS : ∀ β, G.S β → w'.heap[β]? = w.heap[β]? := fun β hβ => hbel.block β (hs.S_lt β hβ) fun h => by
   obtain ⟨k, hk, hg⟩ := hnotL β h
   exact (hs.at_ok _ _ β (hlk k hk).1 (hlk k hk).2 hg).2.2 hβ
  have hsz := hbel.size
  have hle := hs.below.size
  have hng := fun c => MB (f := nu ls ns) (bx := st.bx) (ns := ns) (rv := rv) (c := c) hns hnd
  have hbg := NS (f := nu ls ns) (bx := st.bx) (r := newB (nu ls ns) ns rv) (ls := ls) (lent := lent) (ch := ch) hll hln hch (fun c hc => (hng c).1 (hlsns c hc)) hlb
  have hblk : ∀ c k, BJ st.bx (Ir (nu ls ns) ls lent ch (newB (nu ls ns) ns rv)) c = some k →
    (c ∉ ns ∧ c ∉ ls ∧ st.bx c = some k) ∨ (∃ m x, m < ns.length ∧ nm ns m = c ∧ rv[m]? = some x ∧ k = x.ren (nu ls ns)) ∨ (∃ m x, m < ls.length ∧ nm ls m = c ∧ lent[m]? = some x ∧ k = x.2.ren (nu ls ns)) := by
   intro c k hc
   by_cases hm : c ∈ ls
   ·obtain ⟨m, hm1, hm2⟩ := Mw hm
    have hlx : lent[m]? = some (lent[m]'(by omega)) := by simp [show m < lent.length from by omega]
    have := hbg.2 m _ hlx
    rw [hm2, hc] at this
    exact .inr (.inr ⟨m, _, hm1, hm2, hlx, by simpa using this⟩)
   ·rw [hbg.1 c hm] at hc
    by_cases hm2 : c ∈ ns
    ·obtain ⟨m, hm1, hm3⟩ := Mw hm2
     have hrx : rv[m]? = some (rv[m]'(by omega)) := by simp [show m < rv.length from by omega]
     have := (hng c).2 m _ hrx
     rw [hm3, hc] at this
     exact .inr (.inl ⟨m, _, hm1, hm3, hrx, by simpa using this⟩)
    ·rw [(hng c).1 hm2] at hc; exact .inl ⟨hm2, hm, hc⟩
  have hdom : ∀ b, H5 lent.length rv.length b = true → (BJ st.bx (Ir (nu ls ns) ls lent ch (newB (nu ls ns) ns rv)) (nu ls ns b)).isSome = true := by
   intro b hb
   unfold H5 at hb
   split at hb
   ·rename_i h
    obtain ⟨k, _, rfl⟩ := I8 h
    rw [Nat.blt_eq] at hb
    have hk : k < lent.length := by omega
    rw [He (by omega), hbg.2 k _ (show lent[k]? = some lent[k] by simp [hk])]; rfl
   ·rename_i h
    rw [Nat.blt_eq] at hb
    have hni : nm ns b ∉ ls := fun hm => hlsns _ hm (Fp (by omega))
    rw [Lq (by omega), hbg.1 _ hni, (hng (nm ns b)).2 b _ (show rv[b]? = some rv[b] by simp [hb])]; rfl
  have hren : ∀ l : List Nat, Jk lent.length rv.length l = true → ∀ b, b ∈ l → H5 lent.length rv.length b = true := fun l h b hb => List.all_eq_true.1 h b hb
  have hrenB : ∀ (k : BO) b, b ∈ (k.ren (nu ls ns)).names → ∃ b0, b0 ∈ k.names ∧ b = nu ls ns b0 := by
   intro k b hb
   cases k with
   | box cs =>
    obtain ⟨c, hc, hb⟩ := Bm.1 hb
    obtain ⟨c0, h0, rfl⟩ := List.mem_map.1 hc
    obtain ⟨b0, h1, h2⟩ := Jz hb
    exact ⟨b0, Bm.2 ⟨c0, h0, h1⟩, h2⟩
   | vec e rows => cases hb
   | mp es => cases hb
   | dvec e cols rs => cases hb
   | hol e cols i0 k0 c rs => exact ⟨c, by simp [BO.names], by simpa [BO.ren, BO.names] using hb⟩
   | gone => cases hb
  have hhasN : ∀ m β, m < ns.length → (G2.has (nm ns m) β ↔ G'.has m β) := fun m β hm => by
   have hmd : H5 lent.length rv.length m = true := by
    unfold H5; rw [I0 (show m < 90000 by omega) (Nat.le_refl _), if_neg (by simp), Nat.blt_eq]; omega
   have := hvia.has (β := β) hmd
   rwa [Lq (by omega)] at this
  have key : DT P X G2 ⟨st.env, BJ st.bx (Ir (nu ls ns) ls lent ch (newB (nu ls ns) ns rv))⟩ a w' := by
   refine hs.frame (fun c hc => Mq hc) hext hwS ?_ ?_ ?_ ?_ ?_ ?_ (fun b hb => by
    have : b ∉ ns := fun hm => by rw [hndl.2 b hm] at hb; cases hb
    simp only [G2]; rw [if_neg this, if_neg this, if_neg this]; exact ⟨rfl, rfl, rfl⟩)
   ·intro c k hc
    rcases hblk c k hc with ⟨_, h0, h1⟩ | ⟨m, x, h1, h2, h3, h4⟩ | ⟨m, x, h1, h2, h3, h4⟩
    ·refine .inl ⟨h1, fun β hr hβ => hbel.block β (hs.at_ok c k β h1 hr hβ).2.1 fun hL => ?_⟩
     obtain ⟨j, hj, hg⟩ := hnotL β hL
     exact h0 ((hs.at_inj _ _ _ _ β h1 (hlk j hj).1 hr (hlk j hj).2 hβ hg) ▸ Fp (by omega))
    ·subst h4
     have hmd : H5 lent.length rv.length m = true := by
      unfold H5; rw [I0 (show m < 90000 by omega) (Nat.le_refl _), if_neg (by simp), Nat.blt_eq]; omega
     have hxn := hren _ (List.all_eq_true.1 hnmV x (List.mem_of_getElem? h3))
     refine .inr ⟨?_, fun c' hc' => ?_⟩
     ·have := (hvec m x h3).ren hvia hmd hxn
      rwa [Lq (by omega), h2] at this
     ·obtain ⟨b0, hb0, rfl⟩ := hrenB x c' hc'
      exact hdom b0 (hxn b0 hb0)
    ·subst h4
     have hmd : H5 lent.length rv.length (90000 + m) = true := by
      unfold H5; rw [Hn (by omega), if_pos rfl, Nat.blt_eq]; omega
     have hxn := hren _ (List.all_eq_true.1 hnmL x (List.mem_of_getElem? h3))
     refine .inr ⟨?_, fun c' hc' => ?_⟩
     ·have := (hpost m x h3).ren hvia hmd hxn
      rwa [He (by omega), h2] at this
     ·obtain ⟨b0, hb0, rfl⟩ := hrenB x.2 c' hc'
      exact hdom b0 (hxn b0 hb0)
   ·intro c k β hc hr hβ
    rcases hblk c k hc with ⟨h0, _, h1⟩ | ⟨m, x, h1, h2, h3, h4⟩ | ⟨m, x, h1, h2, h3, h4⟩
    ·have hβ := (hext.has (by rw [h1]; rfl)).1 hβ
     have := hs.at_ok c k β h1 hr hβ
     refine ⟨this.1, by omega, fun h => ?_⟩
     rcases hS2 β h with h | h
     ·exact this.2.2 h
     ·omega
    ·rw [← h2, hhasN m β h1] at hβ
     have := hvat m β (by omega) hβ
     exact ⟨.new (by omega), this.2.1, this.2.2⟩
    ·subst h2
     have h5 := hlk m (by omega)
     have hβ := (hext.has (by rw [h5.1]; rfl)).1 hβ
     have := hs.at_ok _ _ β h5.1 h5.2 hβ
     refine ⟨this.1, by omega, hlS m β (by omega) ?_⟩
     have h6 := hsame m (by omega)
     unfold Gh.has at hβ ⊢
     rw [h6.1, h6.2.2]
     simp only [Gc]; rw [He (by omega)]; exact hβ
   ·intro c c' k k' β hc hc' hr hr' hβ hβ'
    have old : ∀ c k, BJ st.bx (Ir (nu ls ns) ls lent ch (newB (nu ls ns) ns rv)) c = some k → k.real = true → G2.has c β → (∃ k0, st.bx c = some k0 ∧ k0.real = true ∧ G.has c β) ∨ ∃ m, m < ns.length ∧ nm ns m = c ∧ G'.has m β := by
     intro c k hc hr hβ
     rcases hblk c k hc with ⟨h0, _, h1⟩ | ⟨m, x, h1, h2, h3, h4⟩ | ⟨m, x, h1, h2, h3, h4⟩
     ·exact .inl ⟨k, h1, hr, (hext.has (by rw [h1]; rfl)).1 hβ⟩
     ·rw [← h2, hhasN m β h1] at hβ
      exact .inr ⟨m, h1, h2, hβ⟩
     ·subst h2
      have h5 := hlk m (by omega)
      exact .inl ⟨_, h5.1, h5.2, (hext.has (by rw [h5.1]; rfl)).1 hβ⟩
    rcases old c k hc hr hβ with ⟨k0, h1, h2, h3⟩ | ⟨m, h1, h2, h3⟩ <;> rcases old c' k' hc' hr' hβ' with ⟨k0', h1', h2', h3'⟩ | ⟨m', h1', h2', h3'⟩
    ·exact hs.at_inj c c' k0 k0' β h1 h1' h2 h2' h3 h3'
    ·have h5 := hvat m' β (by omega) h3'
     have h6 := (hs.at_ok c k0 β h1 h2 h3).2.1
     omega
    ·have h5 := hvat m β (by omega) h3
     have h6 := (hs.at_ok c' k0' β h1' h2' h3').2.1
     omega
    ·have := hvinj m m' β (by omega) (by omega) h3 h3'
     rw [← h2, ← h2', this]
   ·intro β h
    rcases hS2 β h with h | h
    ·have := hs.S_lt β h; omega
    ·exact h.2
   ·intro β h
    rcases hS2 β h with h | h
    ·exact hs.S_src β h
    ·exact .inr (by omega)
   ·refine hs.below.trans ⟨hbel.os, hbel.tape, hbel.output, hbel.size, fun k hk hnl => hbel.block k (by omega) fun hL => ?_⟩
    obtain ⟨j, hj, hg⟩ := hnotL k hL
    rcases (hs.at_ok _ _ k (hlk j hj).1 (hlk j hj).2 hg).1.2 with h | h
    ·omega
    ·exact hnl h
  refine hK _ _ ⟨G2, key.put (some s) (some (res.ren (nu ls ns))) v (by intro t e; cases e; exact hn) ?_⟩
  rintro d ⟨⟩
  refine ⟨hres'.ren hvia (hren _ hnmR), fun b hb => ?_⟩
  obtain ⟨b0, h1, h2⟩ := JX hb
  rw [h2]
  exact hdom b0 (hren _ hnmR b0 h1)
end run
end Go.Lift

/- Parts of a call's own slices: cut, copied into, appended to in place, cleared. No condition. -/
namespace Go.Lift
open Go.RowKit
variable {P : Program} {X : Js} {ops : Array Oper}
def HU {α : Type} (xs : List α) (q : Nat) (ys : List α) : List α := xs.take q ++ ys ++ xs.drop (q + ys.length)
theorem Ib {α : Type} {xs ys : List α} {q : Nat} (h : q + ys.length ≤ xs.length) : (HU xs q ys).length = xs.length := by
 unfold HU; simp; omega
theorem QI {α : Type} {xs ys : List α} {q : Nat} (h : q + ys.length ≤ xs.length) (i : Nat) : (HU xs q ys)[i]? = if q ≤ i ∧ i < q + ys.length then ys[i - q]? else xs[i]? := by
 unfold HU
 by_cases h1 : i < q
 ·rw [if_neg (by omega), List.append_assoc, List.getElem?_append_left (by simp; omega), List.getElem?_take_of_lt h1]
 ·by_cases h2 : i < q + ys.length
  ·rw [if_pos (by omega), List.getElem?_append_left (by simp; omega), List.getElem?_append_right (by simp; omega)]
   congr 1; simp; omega
  ·rw [if_neg (by omega), List.getElem?_append_right (by simp; omega), List.getElem?_drop]
   congr 1; simp; omega
theorem QT {α β : Type} (f : α → β) (xs ys : List α) (q : Nat) : HU (xs.map f) q (ys.map f) = (HU xs q ys).map f := by
 unfold HU; simp
inductive L6 : D → Nat → Nat → List (List T) → Nat → Nat → Prop where
 | own (b e : Nat) (rows : List (List T)) : L6 (.e (.one (.own b))) b e rows 0 rows.length
 | view (b e : Nat) (rows : List (List T)) (lo len : Nat) (h : lo + len ≤ rows.length) : L6 (.e (.one (.view b e lo len))) b e rows lo len
inductive Nk : D → List (Nat × BO) → Nat → List (List T) → Prop where
 | of {d : D} {rb : List (Nat × BO)} {e : Nat} {rows : List (List T)} (h : UZ d rb e rows) : Nk d rb e rows
 | view (b e : Nat) (rows : List (List T)) (lo len : Nat) (h : lo + len ≤ rows.length) : Nk (.e (.one (.view b e lo len))) [(b, .vec e rows)] e ((rows.drop lo).take len)
theorem NG (q : Addr) : q.add 0 = q := by unfold Addr.add; simp
theorem MJ {G : Gh} {w : World} {b e : Nat} {rows : List (List T)} (h : FQ P w G b (.vec e rows)) : ∃ a cap, G.hd b = .slice a rows.length cap ∧ rows.length ≤ cap ∧
  (0 < cap → ∃ β arr el, a = some ⟨β, 0, none⟩ ∧ G.loc b = some β ∧ w.heap[β]? = some (.cells arr el (0, 0)) ∧ arr.size = cap * e ∧ Ed w G.S arr e 0 rows) := by
 rcases h with ⟨a, h1, h2, _⟩ | ⟨β, cap, arr, el, h0, h1, h2, h3, h4, h5, h6⟩
 ·subst h2; exact ⟨a, 0, h1, Nat.le_refl _, fun h => by cases h⟩
 ·exact ⟨_, cap, h1, h3, fun _ => ⟨β, arr, el, rfl, h0, h2, h4, by rw [h4, Nat.zero_add]; exact Nat.mul_le_mul_right e h3, h5, fun i row j t hi hj => by rw [Nat.zero_add]; exact h6 i row j t hi hj⟩⟩
section run
variable {dr : Bool} {Q : St → Prop} {r i : Nat} {st : St} {log : List (Nat × Di)} {o : Oper} {gs : List (Operand × D)}
theorem DT.dstV {G : Gh} {a : Act} {w : World} (hs : DT P X G st a w) {x : Operand} {d : D} {b e lo len : Nat} {rows : List (List T)} (hx : Lift.opd st.env x = some d) (h : L6 d b e rows lo len) (hb : st.bx b = some (.vec e rows)) :
  ∃ p cap', a.eval x = .slice p len cap' ∧ rows.length - lo ≤ cap' ∧ lo + len ≤ rows.length ∧
   (lo < rows.length → ∃ β cap arr el, G.loc b = some β ∧ G.hd b = .slice (some ⟨β, 0, none⟩) rows.length cap ∧ rows.length ≤ cap ∧ p = some ⟨β, lo * e, none⟩ ∧ w.heap[β]? = some (.cells arr el (0, 0)) ∧ arr.size = cap * e ∧ Ed w G.S arr e 0 rows) := by
 obtain ⟨a0, cap, h1, h2, h3⟩ := MJ (hs.blk b _ hb)
 have hR := hs.opd hx
 cases h with
 | own =>
  obtain ⟨hR, _⟩ : Fu P w G (a.eval x) (.own b) := hR
  refine ⟨a0, cap, hR.trans h1, by omega, by omega, fun hlt => ?_⟩
  obtain ⟨β, arr, el, g1, g2, g3, g4, g5⟩ := h3 (by omega)
  subst g1
  exact ⟨β, cap, arr, el, g2, h1, h2, by simp, g3, g4, g5⟩
 | view _ _ _ _ _ h =>
  obtain ⟨a1, n1, cap1, p, k1, k2, k3, k4⟩ : Fu P w G (a.eval x) (.view b e lo len) := hR
  rw [h1] at k1
  cases k1
  refine ⟨p, cap - lo, k3, by omega, h, fun hlt => ?_⟩
  obtain ⟨β, arr, el, g1, g2, g3, g4, g5⟩ := h3 (by omega)
  subst g1
  refine ⟨β, cap, arr, el, g2, h1, h2, ?_, g3, g4, g5⟩
  rw [k4 (by omega)]
  simp [Addr.add_mk]
theorem DT.srcW {G : Gh} {a : Act} {w : World} (hs : DT P X G st a w) {x : Operand} {d : D} {rb : List (Nat × BO)} {e : Nat} {rows : List (List T)} (hx : Lift.opd st.env x = some d) (h : Nk d rb e rows) (hb : HA st.bx rb) :
  ∃ p cap, a.eval x = .slice p rows.length cap ∧ (rows = [] ∨ ∃ β off arr el fz, p = some ⟨β, off, none⟩ ∧ w.heap[β]? = some (.cells arr el fz) ∧ Ed w G.S arr e off rows) := by
 cases h with
 | of h =>
  have hR := hs.opd hx
  cases h with
  | own b e rows =>
   obtain ⟨hR, _⟩ : Fu P w G (a.eval x) (.own b) := hR
   obtain ⟨a0, cap, h1, h2, h3⟩ := MJ (hs.blk b _ hb.1)
   refine ⟨a0, cap, hR.trans h1, ?_⟩
   cases rows with
   | nil => exact .inl rfl
   | cons y ys =>
    obtain ⟨β, arr, el, g1, g2, g3, g4, g5⟩ := h3 (by simp at h2; omega)
    exact .inr ⟨β, 0, arr, el, (0, 0), g1, g3, g5⟩
  | sl e rows hrow =>
   have hR : Et w G.S (a.eval x) (.sl rows) := hR
   generalize a.eval x = v at hR
   cases hR with
   | nil a' cap => exact ⟨_, _, rfl, .inl rfl⟩
   | sl β off cap e' arr el' fz rows h1 h2 h3 h4 h5 h6 =>
    refine ⟨_, _, rfl, ?_⟩
    cases rows with
    | nil => exact .inl rfl
    | cons r0 rs =>
     have he : e' = e := by rw [← hrow 0 r0 rfl]; exact (h5 0 r0 rfl).symm
     subst he
     exact .inr ⟨β, off, arr, el', fz, rfl, h2, h4, h5, h6⟩
  | nil e =>
   have hR : Et w G.S (a.eval x) .nil0 := hR
   generalize a.eval x = v at hR
   cases hR with
   | nil0 a' => exact ⟨_, _, rfl, .inl rfl⟩
 | view b _ rows lo len h =>
  obtain ⟨p, cap', h1, h2, h3, h4⟩ := hs.dstV hx (.view b e rows lo len h) hb.1
  have hlen : ((rows.drop lo).take len).length = len := by simp; omega
  refine ⟨p, cap', by rw [hlen]; exact h1, ?_⟩
  by_cases hz : len = 0
  ·exact .inl (by rw [hz, List.take_zero])
  ·obtain ⟨β, cap, arr, el, g1, g2, g3, g4, g5, g6, g7⟩ := h4 (by omega)
   refine .inr ⟨β, lo * e, arr, el, (0, 0), g4, g5, ?_, ?_, ?_⟩
   ·rw [hlen, g6, ← Nat.add_mul]; exact Nat.mul_le_mul_right e (by omega)
   ·intro i row hi
    have := AS hi
    rw [hlen] at this
    rw [List.getElem?_take_of_lt this, List.getElem?_drop] at hi
    exact g7.2.1 _ row hi
   ·intro i row j t hi hj
    have := AS hi
    rw [hlen] at this
    rw [List.getElem?_take_of_lt this, List.getElem?_drop] at hi
    have := g7.2.2 _ row j t hi hj
    rwa [Nat.zero_add, Nat.add_mul] at this
theorem Ed.take {w : World} {S : Nat → Prop} {arr : Array Value} {e off n : Nat} {rows : List (List T)} (h : Ed w S arr e off rows) : Ed w S arr e off (rows.take n) := by
 refine ⟨?_, ?_, ?_⟩
 ·have := h.1
  have h2 : (rows.take n).length * e ≤ rows.length * e := Nat.mul_le_mul_right e (by simp; omega)
  omega
 ·intro i row hi
  have := AS hi
  simp at this
  rw [List.getElem?_take_of_lt (by omega)] at hi
  exact h.2.1 i row hi
 ·intro i row j t hi hj
  have := AS hi
  simp at this
  rw [List.getElem?_take_of_lt (by omega)] at hi
  exact h.2.2 i row j t hi hj
theorem OJ {w : World} {S : Nat → Prop} {p : Option Addr} {len cap e n : Nat} {rows : List (List T)} (hn : n ≤ rows.length) (h : rows = [] ∨ ∃ β off arr el fz, p = some ⟨β, off, none⟩ ∧ w.heap[β]? = some (.cells arr el fz) ∧ Ed w S arr e off rows) :
  ∃ news, (Builtin.firstCells e n (.slice p len cap)).run P w = .ok news w ∧ Ed w S news e 0 (rows.take n) ∧ news.size = n * e := by
 rcases h with h | ⟨β, off, arr, el, fz, h1, h2, h3⟩
 ·subst h
  have : n = 0 := by simpa using hn
  subst this
  obtain ⟨news, k1, k2, k3⟩ := Fy (P := P) (w := w) (a := p) (len := len) (cap := cap) (e := e) (S := S)
  exact ⟨news, k1 w rfl, by simpa using k2, by simpa using k3⟩
 ·subst h1
  have hl : (rows.take n).length = n := by simp; omega
  obtain ⟨news, k1, k2, k3⟩ := G4 (P := P) (len := len) (cap := cap) h2 (h3.take (n := n))
  rw [hl] at k1 k3
  exact ⟨news, k1 w rfl, k2, k3⟩
theorem O2 {G : Gh} {w : World} {b e β cap q : Nat} {rows rows2 : List (List T)} {arr news : Array Value} {el : TypeId} (hlt : β < w.heap.size) (hnS : ¬ G.S β) (h0 : G.loc b = some β) (h1 : G.hd b = .slice (some ⟨β, 0, none⟩) rows.length cap) (h3 : rows.length ≤ cap) (h4 : arr.size = cap * e) (h5 : Ed w G.S arr e 0 rows)
  (hn : Ed w G.S news e 0 rows2) (hns : news.size = rows2.length * e) (hq : q + rows2.length ≤ rows.length) :
  FQ P (GV w β (.cells (GF arr (q * e) news.toList) el (0, 0))) G b (.vec e (HU rows q rows2)) := by
 have hle : q * e + rows2.length * e ≤ cap * e := by rw [← Nat.add_mul]; exact Nat.mul_le_mul_right e (by omega)
 have hS : ∀ γ, G.S γ → (GV w β (.cells (GF arr (q * e) news.toList) el (0, 0))).heap[γ]? = w.heap[γ]? := fun γ hγ => by
  rw [EJ, if_neg (fun (h : γ = β ∧ β < w.heap.size) => hnS (h.1 ▸ hγ))]
 have hrl : ∀ (i : Nat) (row : List T), (HU rows q rows2)[i]? = some row → row.length = e := by
  intro i row hi
  rw [QI hq] at hi
  split at hi
  ·exact hn.2.1 _ row hi
  ·exact h5.2.1 _ row hi
 refine .inr ⟨β, cap, GF arr (q * e) news.toList, el, h0, by rw [Ib hq]; exact h1, by rw [EJ, if_pos ⟨rfl, hlt⟩], by rw [Ib hq]; exact h3, by rw [Hm, h4], hrl, ?_⟩
 intro i row j t hi hj
 have hj' := AS hj
 have hre := hrl i row hi
 rw [QI hq] at hi
 rw [FY _ _ _ _ (by simp; omega)]
 simp only [Array.length_toList, hns]
 split at hi
 ·rename_i hin
  have hle2 : (i - q) * e + e ≤ rows2.length * e := by rw [← Nat.succ_mul]; exact Nat.mul_le_mul_right e (by omega)
  have hsp : i * e = q * e + (i - q) * e := by rw [← Nat.add_mul]; congr 1; omega
  rw [if_pos (by omega)]
  have := hn.2.2 _ row j t hi hj
  rw [Nat.zero_add] at this
  have h6 : (news.toList[i * e + j - q * e]?).getD undef = AG news ((i - q) * e + j) := by
   rw [show i * e + j - q * e = (i - q) * e + j from by omega]
   unfold AG; simp
  rw [h6]
  exact this.mono hS fun _ h => h
 ·rename_i hin
  rw [if_neg]
  ·have := h5.2.2 _ row j t hi hj
   rw [Nat.zero_add] at this
   exact this.mono hS fun _ h => h
  ·rintro ⟨k1, k2⟩
   by_cases hiq : i < q
   ·have : i * e + e ≤ q * e := by rw [← Nat.succ_mul]; exact Nat.mul_le_mul_right e hiq
    omega
   ·have : q * e + rows2.length * e ≤ i * e := by rw [← Nat.add_mul]; exact Nat.mul_le_mul_right e (by omega)
    omega
theorem Sv {x : Operand} {t el s e l h b lo0 len : Nat} {lo hi : Option Operand} {rl rh : List (Operand × D)} {rows : List (List T)} {d : D} (hat : At st.env ops i X.n (.slice t x lo hi none) s gs)
  (hx : opd st.env x = some d) (hD : L6 d b e rows lo0 len) (hb : st.bx b = some (.vec e rows)) (ht : sliceB P t el = true) (he : HE P el e = true) (hlo : SM lo 0 l rl) (hhi : SM hi len h rh) (h1 : Gd st.env rl) (h2 : Gd st.env rh) (hlh : l ≤ h) (hhl : lo0 + h ≤ rows.length)
  (next : BA P X ops dr Q r (i + 1) (Di.upd ⟨gs ++ ((x, d) :: (rl ++ rh)), [(b, .vec e rows)], some s, some (.e (.one (.view b e (lo0 + l) (h - l)))), [], []⟩ st) ((i, ⟨gs ++ ((x, d) :: (rl ++ rh)), [(b, .vec e rows)], some s, some (.e (.one (.view b e (lo0 + l) (h - l)))), [], []⟩) :: log)) : BA P X ops dr Q (r + 1) i st log := by
 obtain ⟨o, ho, hop, hd, hn, hg, hgp⟩ := hat.out
 refine BA.step next ⟨Aw.2 ⟨hgp, hx, Aw.2 ⟨h1, h2⟩⟩, ⟨hb, trivial⟩, trivial⟩ (LR.value ho hg rfl hd.symm (Eb hd hn) ?_)
 intro G st a w hs hpre
 obtain ⟨hx, h12⟩ := (Aw.1 hpre.r).2
 obtain ⟨h1, h2⟩ := Aw.1 h12
 have hb := hpre.b.1
 -- the header of the whole
 obtain ⟨a0, cap, k1, k2, k3⟩ := MJ (hs.blk b _ hb)
 have hv : ∃ p, a.eval x = .slice p len (cap - lo0) ∧ lo0 + len ≤ rows.length ∧ (lo0 < cap → p = a0.map fun q => q.add (lo0 * e)) := by
  have hR := hs.opd hx
  cases hD with
  | own =>
   obtain ⟨hR, _⟩ : Fu P w G (a.eval x) (.own b) := hR
   exact ⟨a0, hR.trans k1, by omega, fun _ => by cases a0 <;> simp [NG]⟩
  | view _ _ _ _ _ h' =>
   obtain ⟨a1, n1, cap1, p, g1, g2, g3, g4⟩ : Fu P w G (a.eval x) (.view b e lo0 len) := hR
   rw [k1] at g1; cases g1
   exact ⟨p, g3, h', g4⟩
 obtain ⟨p, hv1, hv2, hv3⟩ := hv
 refine ⟨.slice (if cap - lo0 = l then p else p.map (·.add (l * e))) (h - l) (cap - lo0 - l), w, G, ?_, hs, ?_⟩
 ·simp only [execOp, hop]
  refine Aq (a := .slice (if cap - lo0 = l then p else p.map (·.add (l * e))) (h - l) (cap - lo0 - l)) (w1 := w) ?_ rfl
  rw [hv1]
  exact Pt (a := a) hs ht he hlo hhi h1 h2 hlh (by omega)
 ·rintro d' ⟨⟩
  refine ⟨⟨a0, rows.length, cap, _, k1, by omega, by rw [show cap - lo0 - l = cap - (lo0 + l) from by omega], fun hlt => ?_⟩, fun b' hb' => ?_⟩
  ·rw [if_neg (by omega), hv3 (by omega)]
   obtain ⟨β, arr, el', g1, _⟩ := k3 (by omega)
   subst g1
   simp only [Option.map_some, Addr.add_mk, Nat.add_mul, Nat.zero_add]
  ·simp [D.names, E.names, C.names] at hb'
   subst hb'
   simp [BJ, hb]
theorem UT {x : Operand} {s t el b e lo len : Nat} (hat : At st.env ops i X.n (.call ⟨.builtin .len, #[x], #[t]⟩) s gs)
  (hx : opd st.env x = some (.e (.one (.view b e lo len)))) (ht : sliceB P t el = true)
  (next : BA P X ops dr Q r (i + 1) (Di.upd ⟨gs ++ [(x, .e (.one (.view b e lo len)))], [], some s, some (vD (goInt len)), [], []⟩ st) ((i, ⟨gs ++ [(x, .e (.one (.view b e lo len)))], [], some s, some (vD (goInt len)), [], []⟩) :: log)) : BA P X ops dr Q (r + 1) i st log := by
 obtain ⟨o, ho, hop, hd, hn, hg, hgp⟩ := hat.out
 refine BA.step next ⟨Aw.2 ⟨hgp, hx, trivial⟩, trivial, trivial⟩ (LR.value ho hg rfl hd.symm (Eb hd hn) ?_)
 intro G st a w hs hpre
 obtain ⟨hx, _⟩ := (Aw.1 hpre.r).2
 obtain ⟨a1, n1, cap1, p, k1, k2, k3, k4⟩ : Fu P w G (a.eval x) (.view b e lo len) := hs.opd hx
 refine ⟨goInt len, w, G, ?_, hs, ?_⟩
 ·simp only [execOp, hop]
  refine FW fun cs => ?_
  simp only [List.map_toArray, List.map_cons, List.map_nil, builtin, k3]
  exact Aq (KK ht) rfl
 ·rintro d ⟨⟩
  exact ⟨.val _ rfl, fun b hb => by cases hb⟩
theorem Su {x y : Operand} {s e b lo len : Nat} {rows : List (List T)} {row : List T} {t el : TypeId} {k : IntKind} {n : Int} (hat : At st.env ops i X.n (.indexAddr t x y) s gs)
  (hx : opd st.env x = some (.e (.one (.view b e lo len)))) (hle : lo + len ≤ rows.length) (hy : opd st.env y = some (vD (.int k n))) (hb : st.bx b = some (.vec e rows)) (ht : sliceB P t el = true) (hz : HE P el e = true) (h0 : 0 ≤ n) (hn1 : n.toNat < len)
  (next : BA P X ops dr Q r (i + 1) (Di.upd ⟨gs ++ [(x, .e (.one (.view b e lo len))), (y, vD (.int k n))], [(b, .vec e rows)], some s, some (.e (.one (.eptr b e (lo + n.toNat) 0))), [], []⟩ st) ((i, ⟨gs ++ [(x, .e (.one (.view b e lo len))), (y, vD (.int k n))], [(b, .vec e rows)], some s, some (.e (.one (.eptr b e (lo + n.toNat) 0))), [], []⟩) :: log)) : BA P X ops dr Q (r + 1) i st log := by
 obtain ⟨o, ho, hop, hd, hn, hg, hgp⟩ := hat.out
 refine BA.step next ⟨Aw.2 ⟨hgp, hx, hy, trivial⟩, ⟨hb, trivial⟩, trivial⟩ (LR.value ho hg rfl hd.symm (Eb hd hn) ?_)
 intro G st a w hs hpre
 obtain ⟨hx, hy, _⟩ := (Aw.1 hpre.r).2
 have hb := hpre.b.1
 obtain ⟨p, cap', h1, h2, h3, h4⟩ := hs.dstV hx (.view b e rows lo len hle) hb
 have hY : a.eval y = .int k n := EL (hs.opd hy : Et w G.S (a.eval y) (.val _))
 obtain ⟨β, cap, arr, el', g1, g2, g3, g4, g5, g6, g7⟩ := h4 (by omega)
 subst g4
 refine ⟨_, w, G, by simp only [execOp, hop, h1, hY]; exact Aq (JE ht hz h0 hn1) rfl, hs, ?_⟩
 rintro d ⟨⟩
 exact ⟨⟨β, g1, by simp [Nat.add_mul]⟩, fun b' hb' => hs.opd_live hx b' (by simpa [D.names, E.names, C.names] using hb')⟩
theorem RI {t t2 el e : Nat} {w : World} {p p2 : Option Addr} {dl dc n2 c2 : Nat} {news : Array Value} {ty : TypeId} (ht : sliceB P t el = true) (he : HE P el e = true) (hnew : (Builtin.firstCells e (Nat.min n2 dl) (.slice p2 n2 c2)).run P w = .ok news w) {w' : World}
  (hst : ∀ q, p = some q → (storeCells q news.toList).run P w = .ok () w') (hno : p = none → w' = w) : (Builtin.copy_ #[t, t2] ty #[.slice p dl dc, .slice p2 n2 c2]).run P w = .ok (goInt (Nat.min n2 dl)) w' := by
 unfold sliceB at ht
 split at ht
 ·rename_i e' hu
  have : e' = el := by simpa using ht
  subst this
  unfold Builtin.copy_
  refine Aq (AR hu w) ?_
  refine Aq (a := n2) (w1 := w) rfl ?_
  refine Aq (E7 he w) ?_
  refine Aq hnew ?_
  cases p with
  | none => rw [hno rfl]; rfl
  | some q => exact Aq (hst q rfl) rfl
 ·cases ht
theorem Ur {x y : Operand} {t t2 el s e b lo len : Nat} {d d2 : D} {rb2 : List (Nat × BO)} {rows rows2 rows' : List (List T)} (hat : At st.env ops i X.n (.call ⟨.builtin .copy, #[x, y], #[t, t2]⟩) s gs)
  (hx : opd st.env x = some d) (hD : L6 d b e rows lo len) (hb : st.bx b = some (.vec e rows)) (hy : opd st.env y = some d2) (hS : Nk d2 rb2 e rows2) (hb2 : HA st.bx rb2) (ht : sliceB P t el = true) (he : HE P el e = true) (hr : HU rows lo (rows2.take (Nat.min rows2.length len)) = rows')
  (next : BA P X ops dr Q r (i + 1) (Di.upd ⟨gs ++ [(x, d), (y, d2)], (b, .vec e rows) :: rb2, some s, some (vD (goInt (Nat.min rows2.length len))), [(b, .vec e rows')], []⟩ st) ((i, ⟨gs ++ [(x, d), (y, d2)], (b, .vec e rows) :: rb2, some s, some (vD (goInt (Nat.min rows2.length len))), [(b, .vec e rows')], []⟩) :: log)) : BA P X ops dr Q (r + 1) i st log := by
 obtain ⟨o, ho, hop, hd, hn, hg, hgp⟩ := hat.out
 refine BA.step next ⟨Aw.2 ⟨hgp, hx, hy, trivial⟩, ⟨hb, hb2⟩, trivial⟩ (LR.value ho hg rfl hd.symm (Eb hd hn) ?_)
 intro G st a w hs hpre
 obtain ⟨hx, hy, _⟩ := (Aw.1 hpre.r).2
 obtain ⟨hb, hb2⟩ := hpre.b
 subst hr
 obtain ⟨p, cap', h1, h2, h3, h4⟩ := hs.dstV hx hD hb
 obtain ⟨p2, cap2, k1, k2⟩ := hs.srcW hy hS hb2
 have hmin : Nat.min rows2.length len ≤ rows2.length := Nat.min_le_left _ _
 have hmin2 : Nat.min rows2.length len ≤ len := Nat.min_le_right _ _
 obtain ⟨news, n1, n2, n3⟩ := OJ (P := P) (len := rows2.length) (cap := cap2) hmin k2
 have hl2 : (rows2.take (Nat.min rows2.length len)).length = Nat.min rows2.length len := by rw [List.length_take]; exact Nat.min_eq_left hmin
 have hrun : ∀ w', (∀ q, p = some q → (storeCells q news.toList).run P w = .ok () w') → (p = none → w' = w) → (execOp a.eval o).run P w = .ok (.value (goInt (Nat.min rows2.length len))) w' := fun w' g1 g2 => by
  simp only [execOp, hop]
  refine FW fun cs => ?_
  simp only [List.map_toArray, List.map_cons, List.map_nil, builtin, h1, k1]
  exact Aq (RI ht he n1 g1 g2) rfl
 have fin : ∀ d', some (vD (goInt (Nat.min rows2.length len))) = some d' → ∀ w' (G' : Gh), Hc P w' G' (goInt (Nat.min rows2.length len)) d' ∧ ∀ c, c ∈ d'.names → (BJ st.bx [(b, .vec e (HU rows lo (rows2.take (Nat.min rows2.length len))))] c).isSome = true := fun d' hd' w' G' => by
  cases hd'; exact ⟨.val _ rfl, fun c hc => by cases hc⟩
 by_cases hlt : lo < rows.length
 ·obtain ⟨β, cap, arr, el', g1, g2, g3, g4, g5, g6, g7⟩ := h4 hlt
  subst g4
  have hat := hs.at_ok b _ β hb rfl (.inl g1)
  have hle : lo * e + Nat.min rows2.length len * e ≤ arr.size := by rw [g6, ← Nat.add_mul]; exact Nat.mul_le_mul_right e (by omega)
  have hst := F2 (P := P) (β := β) (el := el') news.toList w (lo * e) 0 arr g5 (by simp [n3]; omega) (Ed.ones n2 (by rw [n3, hl2]))
  rw [Nat.add_zero] at hst
  refine ⟨_, _, G, hrun _ (fun q hq => by cases hq; exact hst) (fun h => by cases h), ?_, fun d' hd' => fin d' hd' _ _⟩
  exact hs.setB (b := b) (k0 := .vec e rows) hb rfl rfl (.inl g1) (O2 hat.2.1 hat.2.2 g1 g2 g3 g6 g7 n2 (by rw [n3, hl2]) (by rw [hl2]; omega)) (fun c hc => by cases hc)
 ·have hz : Nat.min rows2.length len = 0 := by omega
  have hn0 : news.toList = [] := List.eq_nil_of_length_eq_zero (by simp [n3, hz])
  have hsp : HU rows lo (rows2.take (Nat.min rows2.length len)) = rows := by
   have : lo = rows.length := by omega
   rw [hz]; unfold HU; simp [this]
  refine ⟨_, w, G, hrun w (fun q _ => by rw [hn0]; rfl) (fun _ => rfl), ?_, fun d' hd' => fin d' hd' _ _⟩
  have : (⟨st.env, BJ st.bx [(b, .vec e (HU rows lo (rows2.take (Nat.min rows2.length len))))]⟩ : St) = st := by
   refine St.ext (fun _ => rfl) fun c => ?_
   simp only [BJ]
   split
   ·rename_i e1; rw [e1, hsp, hb]
   ·rfl
  rw [this]; exact hs
theorem Mm {w : World} {S : Nat → Prop} {z : Value} {zs : List Value} {e n : Nat} (hzs : z.cells.toList = zs) (hz1 : zs.all G8 = true) (hze : zs.length = e) : Ed w S (Builtin.zeroCells z.cells n) e 0 (List.replicate n (zs.map fun v => (T.of v).nrm)) ∧ (Builtin.zeroCells z.cells n).size = n * e := by
 have hsz : z.cells.size = e := by rw [← hze, ← hzs]; simp
 have hsize : (Builtin.zeroCells z.cells n).size = n * e := by unfold Builtin.zeroCells; simp [hsz]
 refine ⟨⟨by rw [hsize]; simp, ?_, ?_⟩, hsize⟩
 ·intro i row hi
  rw [List.getElem?_replicate] at hi
  split at hi
  ·cases hi; simp [hze]
  ·cases hi
 ·intro i row j t hi hj
  rw [List.getElem?_replicate] at hi
  split at hi
  ·rename_i hlt
   cases hi
   rw [List.getElem?_map] at hj
   cases hv : zs[j]? with
   | none => rw [hv] at hj; cases hj
   | some v =>
    rw [hv] at hj; cases hj
    have hj' : j < e := by rw [← hze]; exact AS hv
    have hle : i * e + e ≤ n * e := by rw [← Nat.succ_mul]; exact Nat.mul_le_mul_right e hlt
    have hc : AG (Builtin.zeroCells z.cells n) (0 + i * e + j) = v := by
     unfold AG Builtin.zeroCells
     rw [Nat.zero_add, hsz]
     have h1 : i * e + j < n * e := by omega
     rw [Array.getElem?_map, show (Array.range (n * e))[i * e + j]? = some (i * e + j) from by simp [h1]]
     simp only [Option.map_some, Option.getD_some]
     have h2 : (i * e + j) % e = j := by rw [Nat.add_comm, Nat.add_mul_mod_self_right, Nat.mod_eq_of_lt hj']
     rw [h2]
     have h3 : z.cells[j]? = some v := by rw [← Array.getElem?_toList, hzs]; exact hv
     show z.cells[j]! = v
     rw [Array.getElem!_eq_getD, Array.getD_eq_getD_getElem?, h3]; rfl
    rw [hc]
    exact (Et.of (List.all_eq_true.1 hz1 v (List.mem_of_getElem? hv))).nrm
  ·cases hi
theorem R1 {x : Operand} {t el b e lo len : Nat} {z : Value} {zs : List Value} {d : D} {rows rows' : List (List T)} (hop0 : Pa ops i = some (.call ⟨.builtin .clear, #[x], #[t]⟩))
  (hx : opd st.env x = some d) (hD : L6 d b e rows lo len) (hb : st.bx b = some (.vec e rows)) (ht : sliceB P t el = true) (hz : EQ P el = some z) (hzs : z.cells.toList = zs) (hz1 : zs.all G8 = true) (hze : zs.length = e)
  (hr : HU rows lo (List.replicate len (zs.map fun v => (T.of v).nrm)) = rows')
  (next : BA P X ops dr Q r (i + 1) (Di.upd ⟨[(x, d)], [(b, .vec e rows)], none, none, [(b, .vec e rows')], []⟩ st) ((i, ⟨[(x, d)], [(b, .vec e rows)], none, none, [(b, .vec e rows')], []⟩) :: log)) : BA P X ops dr Q (r + 1) i st log := by
 obtain ⟨o, ho, hop, hd, hgn⟩ := Md hop0
 have hg : Rs ops o [] := .none hgn
 refine BA.step next ⟨⟨hx, trivial⟩, ⟨hb, trivial⟩, trivial⟩ (LR.value (rs := [(x, d)]) ho hg rfl hd.symm (fun s h => by rw [hd] at h; cases h) ?_)
 intro G st a w hs hpre
 have hx := hpre.r.1
 have hb := hpre.b.1
 subst hr
 obtain ⟨p, cap', h1, h2, h3, h4⟩ := hs.dstV hx hD hb
 obtain ⟨n2, n3⟩ := Mm (w := w) (S := G.S) (n := len) hzs hz1 hze
 have hl2 : (List.replicate len (zs.map fun v => (T.of v).nrm)).length = len := by simp
 have hrun : ∀ w', (len ≠ 0 → ∃ q, p = some q ∧ (storeCells q (Builtin.zeroCells z.cells len).toList).run P w = .ok () w') → (len = 0 → w' = w) → (execOp a.eval o).run P w = .ok (.value (.tuple #[])) w' := fun w' g1 g2 => by
  simp only [execOp, hop]
  refine FW fun cs => ?_
  simp only [List.map_toArray, List.map_cons, List.map_nil, builtin, h1]
  refine Aq (a := .tuple #[]) (w1 := w') ?_ rfl
  unfold sliceB at ht
  split at ht
  ·rename_i e' hu
   have : e' = el := by simpa using ht
   subst this
   unfold Builtin.clear_
   refine Aq (AR hu w) ?_
   by_cases hz0 : len = 0
   ·rw [g2 hz0]
    subst hz0
    cases p <;> rfl
   ·obtain ⟨q, hq, hst⟩ := g1 hz0
    subst hq
    obtain ⟨len', rfl⟩ : ∃ m, len = m + 1 := ⟨len - 1, (Nat.succ_pred_eq_of_pos (Nat.pos_of_ne_zero hz0)).symm⟩
    refine Aq (FA hz w) ?_
    exact Aq hst rfl
  ·cases ht
 have fin : ∀ (d' : D), (none : Option D) = some d' → ∀ w', Hc P w' G (.tuple #[]) d' ∧ ∀ c, c ∈ d'.names → (BJ st.bx [(b, .vec e (HU rows lo (List.replicate len (zs.map fun v => (T.of v).nrm))))] c).isSome = true := fun d' hd' => by cases hd'
 by_cases hz0 : len = 0
 ·have hsp : HU rows lo (List.replicate len (zs.map fun v => (T.of v).nrm)) = rows := by rw [hz0]; unfold HU; simp
  refine ⟨_, w, G, hrun w (fun h => (h hz0).elim) (fun _ => rfl), ?_, fun d' hd' => fin d' hd' _⟩
  have : (⟨st.env, BJ st.bx [(b, .vec e (HU rows lo (List.replicate len (zs.map fun v => (T.of v).nrm))))]⟩ : St) = st := by
   refine St.ext (fun _ => rfl) fun c => ?_
   simp only [BJ]
   split
   ·rename_i e1; rw [e1, hsp, hb]
   ·rfl
  rw [this]; exact hs
 ·have hlr : lo < rows.length := Nat.lt_of_lt_of_le (Nat.lt_add_of_pos_right (Nat.pos_of_ne_zero hz0)) h3
  obtain ⟨β, cap, arr, el', g1, g2, g3, g4, g5, g6, g7⟩ := h4 hlr
  subst g4
  have hat := hs.at_ok b _ β hb rfl (.inl g1)
  have hle : lo * e + len * e ≤ arr.size := by rw [g6, ← Nat.add_mul]; exact Nat.mul_le_mul_right e (by omega)
  have hst := F2 (P := P) (β := β) (el := el') (Builtin.zeroCells z.cells len).toList w (lo * e) 0 arr g5 (by simp [n3]; omega) (Ed.ones n2 (by rw [n3, hl2]))
  rw [Nat.add_zero] at hst
  refine ⟨_, _, G, hrun _ (fun _ => ⟨_, rfl, hst⟩) (fun h => (hz0 h).elim), ?_, fun d' hd' => fin d' hd' _⟩
  exact hs.setB (b := b) (k0 := .vec e rows) hb rfl rfl (.inl g1) (O2 hat.2.1 hat.2.2 g1 g2 g3 g6 g7 n2 (by rw [n3, hl2]) (by rw [hl2]; exact h3)) (fun c hc => by cases hc)
end run
theorem Q3 {st : St} (s b e : Nat) (rows : List (List T)) (hs0 : st.env s = some (.e (.one (.own b)))) (hb : st.bx b = some (.vec e rows)) : GI P X st (St.put st (some s) (some (.e (.one (.view b e 0 rows.length))))) := by
 rintro a w ⟨G, h⟩
 obtain ⟨a0, cap, k1, k2, k3⟩ := MJ (h.blk b _ hb)
 obtain ⟨hR, _⟩ : Fu P w G (AG a.tmps s) (.own b) := h.env s _ hs0
 refine ⟨G, { h with env := ?_, live := ?_, blk := h.blk, at_ok := h.at_ok, at_inj := h.at_inj, liveB := h.liveB, nlt := h.nlt, lent := h.lent }⟩
 ·intro t d ht
  simp only [St.put] at ht
  split at ht
  ·rename_i e2; cases ht
   rw [e2]
   exact ⟨a0, rows.length, cap, a0, k1, by omega, by rw [hR, k1]; rfl, fun _ => by cases a0 <;> simp [NG]⟩
  ·exact h.env t d ht
 ·intro t d ht c hc
  simp only [St.put] at ht
  split at ht
  ·cases ht
   simp [D.names, E.names, C.names] at hc
   subst hc
   show (st.bx c).isSome = true
   rw [hb]; rfl
  ·exact h.live t d ht c hc
theorem RU {st : St} (s b n e len : Nat) (rows : List (List T)) (hs0 : st.env s = some (.e (.one (.view b e 0 len)))) (hb : st.bx b = some (.vec e rows)) (hn : st.bx n = none) (hlb : Ce b = false) (hln : Ce n = false) (hle : len ≤ rows.length) :
  GI P X st (St.put ⟨st.env, BJ st.bx [(n, .vec e (rows.take len)), (b, .gone)]⟩ (some s) (some (.e (.one (.own n))))) := by
 rintro a w ⟨G, h⟩
 have hnb : n ≠ b := fun e => by rw [e, hb] at hn; cases hn
 obtain ⟨a0, n1, cap, p, k1, k2, k3, k4⟩ : Fu P w G (AG a.tmps s) (.view b e 0 len) := h.env s _ hs0
 obtain ⟨a1, cap1, g1, g2, g3⟩ := MJ (h.blk b _ hb)
 rw [g1] at k1; cases k1
 -- the new ghost
 have hlen : (rows.take len).length = len := by rw [List.length_take]; exact Nat.min_eq_left hle
 have hbx : ∀ c, BJ st.bx [(n, BO.vec e (rows.take len)), (b, .gone)] c = if c = n then some (.vec e (rows.take len)) else if c = b then some .gone else st.bx c := fun c => rfl
 have hext : ∀ l v, G.ext (G.set n l v) (fun c => (st.bx c).isSome = true) := fun l v => Gh.set_ext _ _ _ _ (by simp [hn])
 have key : ∃ l v, AG a.tmps s = v ∧ (∃ q m c, v = .slice q m c) ∧ (∀ β, l = some β → G.loc b = some β) ∧ FQ P w (G.set n l v) n (.vec e (rows.take len)) := by
  by_cases hc : 0 < cap
  ·obtain ⟨β, arr, el, q1, q2, q3, q4, q5⟩ := g3 hc
   subst q1
   refine ⟨some β, .slice (some ⟨β, 0, none⟩) len cap, ?_, ⟨_, _, _, rfl⟩, fun γ hγ => by cases hγ; exact q2, ?_⟩
   ·rw [k3, k4 hc]; simp [Addr.add_mk]
   ·refine .inr ⟨β, cap, arr, el, by simp [Gh.set], by simp [Gh.set, hlen], q3, by rw [hlen]; omega, q4, fun i row hi => (q5.take (n := len)).2.1 i row hi, fun i row j t hi hj => ?_⟩
    have := (q5.take (n := len)).2.2 i row j t hi hj
    rw [Nat.zero_add] at this
    exact this
  ·have hr0 : rows.length = 0 := by omega
   have hl0 : len = 0 := by omega
   have hc0 : cap = 0 := by omega
   refine ⟨none, .slice p 0 0, by rw [k3, hl0, hc0], ⟨_, _, _, rfl⟩, fun γ hγ => (by cases hγ), .inl ⟨p, by simp [Gh.set], by rw [hl0, List.take_zero], by simp [Gh.set]⟩⟩
 obtain ⟨l, v, hv1, hv2, hl, hblk⟩ := key
 have h1 : DT P X (G.set n l v) ⟨st.env, BJ st.bx [(n, .vec e (rows.take len)), (b, .gone)]⟩ a w := by
  refine h.frame ?_ (hext l v) (fun _ _ => rfl) ?_ ?_ ?_ h.S_lt h.S_src h.below (Gh.set_lent _ _ hln)
  ·intro c hc; rw [hbx]; split
   ·rfl
   ·split
    ·rfl
    ·exact hc
  ·intro c k hc
   rw [hbx] at hc
   split at hc
   ·rename_i e2; subst e2; cases hc
    exact .inr ⟨hblk, fun c hc => by cases hc⟩
   ·split at hc
    ·cases hc; exact .inr ⟨trivial, fun c hc => by cases hc⟩
    ·exact .inl ⟨hc, fun _ _ _ => rfl⟩
  ·intro c k β hc hr hβ
   rw [hbx] at hc
   rw [Gh.set_has] at hβ
   split at hc
   ·rename_i e2; rw [if_pos e2] at hβ
    have h5 := h.at_ok b _ β hb rfl (.inl (hl β hβ))
    exact ⟨.new (h5.1.1 hlb), h5.2⟩
   ·rename_i e2; rw [if_neg e2] at hβ
    split at hc
    ·cases hc; cases hr
    ·exact h.at_ok c k β hc hr hβ
  ·intro c c' k k' β hc hc' hr hr' hβ hβ'
   rw [hbx] at hc hc'
   rw [Gh.set_has] at hβ hβ'
   have old : ∀ c k, (if c = n then some (BO.vec e (rows.take len)) else if c = b then some .gone else st.bx c) = some k → k.real = true → (if c = n then l = some β else G.has c β) → (c = n ∧ G.has b β) ∨ (c ≠ n ∧ c ≠ b ∧ st.bx c = some k ∧ G.has c β) := by
    intro c k hc hr hβ
    split at hc
    ·rename_i e2; rw [if_pos e2] at hβ; exact .inl ⟨e2, .inl (hl β hβ)⟩
    ·rename_i e2; rw [if_neg e2] at hβ
     split at hc
     ·cases hc; cases hr
     ·rename_i e3; exact .inr ⟨e2, e3, hc, hβ⟩
   rcases old c k hc hr hβ with ⟨h2, h3⟩ | ⟨h2, h3, h4, h5⟩ <;> rcases old c' k' hc' hr' hβ' with ⟨h2', h3'⟩ | ⟨h2', h3', h4', h5'⟩
   ·rw [h2, h2']
   ·exact (h3' (h.at_inj c' b _ _ β h4' hb hr' rfl h5' h3)).elim
   ·exact (h3 (h.at_inj c b _ _ β h4 hb hr rfl h5 h3')).elim
   ·exact h.at_inj c c' k k' β h4 h4' hr hr' h5 h5'
 refine ⟨G.set n l v, { h1 with env := ?_, live := ?_, blk := h1.blk, at_ok := h1.at_ok, at_inj := h1.at_inj, liveB := h1.liveB, nlt := h1.nlt, lent := h1.lent }⟩
 ·intro t d ht
  simp only [St.put] at ht
  split at ht
  ·rename_i e2; cases ht
   rw [e2, hv1]
   exact ⟨by simp [Gh.set], hv2⟩
  ·exact h1.env t d ht
 ·intro t d ht c hc
  simp only [St.put] at ht
  split at ht
  ·cases ht
   simp [D.names, E.names, C.names] at hc
   subst hc
   show (BJ st.bx [(c, .vec e (rows.take len)), (b, .gone)] c).isSome = true
   simp [BJ]
  ·exact h1.live t d ht c hc
end Go.Lift

/- Smaller operations: least and greatest, checks against nil, a part of an element, bytes and strings; maps of the call's own. No condition. -/
namespace Go.Lift
open Go.RowKit
variable {P : Program} {X : Js} {ops : Array Oper}
def Rw (a b : Int) : Int := if b < a then b else a
def Q9 (a b : Int) : Int := if b > a then b else a
def Q0 (b : ByteArray) (i : Int) : Option Int := if 0 ≤ i then (b[i.toNat]?).map fun x => (x.toNat : Int) else none
theorem QU {β : Type} {b : ByteArray} {i : Int} {f : Int → Option β} {r : β} (h : (Q0 b i).bind f = some r) : ∃ x : UInt8, 0 ≤ i ∧ b[i.toNat]? = some x ∧ f (x.toNat : Int) = some r := by
 obtain ⟨x, h1, h2⟩ := bind_some h
 unfold Q0 at h1
 split at h1
 ·rename_i h0
  cases hx : b[i.toNat]? with
  | none => rw [hx] at h1; cases h1
  | some y => rw [hx] at h1; cases h1; exact ⟨y, h0, rfl, h2⟩
 ·cases h1
def Is (xs : List Int) : ByteArray := xs.foldl (fun s n => s.push (UInt8.ofNat n.toNat)) ByteArray.empty
section run
variable {dr : Bool} {Q : St → Prop} {r i : Nat} {st : St} {log : List (Nat × Di)} {o : Oper} {gs : List (Operand × D)}
theorem U7 {x y : Operand} {t t2 s : Nat} {k k2 : IntKind} {a0 b0 : Int} (hat : At st.env ops i X.n (.call ⟨.builtin .min, #[x, y], #[t, t2]⟩) s gs)
  (hx : opd st.env x = some (vD (.int k a0))) (hy : opd st.env y = some (vD (.int k2 b0)))
  (next : BA P X ops dr Q r (i + 1) (Di.upd ⟨gs ++ [(x, vD (.int k a0)), (y, vD (.int k2 b0))], [], some s, some (vD (.int k (Rw a0 b0))), [], []⟩ st) ((i, ⟨gs ++ [(x, vD (.int k a0)), (y, vD (.int k2 b0))], [], some s, some (vD (.int k (Rw a0 b0))), [], []⟩) :: log)) : BA P X ops dr Q (r + 1) i st log := by
 obtain ⟨o, ho, hop, hd, hn, hg, hgp⟩ := hat.out
 refine BA.step next ⟨Aw.2 ⟨hgp, hx, hy, trivial⟩, trivial, trivial⟩ (LR.value ho hg rfl hd.symm (Eb hd hn) ?_)
 intro G st a w hs hpre
 obtain ⟨hx, hy, _⟩ := (Aw.1 hpre.r).2
 have h1 : a.eval x = .int k a0 := EL (hs.opd hx : Et w G.S (a.eval x) (.val _))
 have h2 : a.eval y = .int k2 b0 := EL (hs.opd hy : Et w G.S (a.eval y) (.val _))
 refine ⟨.int k (Rw a0 b0), w, G, ?_, hs, ?_⟩
 ·simp only [execOp, hop]
  refine FW fun cs => ?_
  simp only [List.map_toArray, List.map_cons, List.map_nil, builtin, h1, h2]
  rfl
 ·rintro d ⟨⟩
  exact ⟨.val _ rfl, fun b hb => by cases hb⟩
theorem Vn {x y : Operand} {t t2 s : Nat} {k k2 : IntKind} {a0 b0 : Int} (hat : At st.env ops i X.n (.call ⟨.builtin .max, #[x, y], #[t, t2]⟩) s gs)
  (hx : opd st.env x = some (vD (.int k a0))) (hy : opd st.env y = some (vD (.int k2 b0)))
  (next : BA P X ops dr Q r (i + 1) (Di.upd ⟨gs ++ [(x, vD (.int k a0)), (y, vD (.int k2 b0))], [], some s, some (vD (.int k (Q9 a0 b0))), [], []⟩ st) ((i, ⟨gs ++ [(x, vD (.int k a0)), (y, vD (.int k2 b0))], [], some s, some (vD (.int k (Q9 a0 b0))), [], []⟩) :: log)) : BA P X ops dr Q (r + 1) i st log := by
 obtain ⟨o, ho, hop, hd, hn, hg, hgp⟩ := hat.out
 refine BA.step next ⟨Aw.2 ⟨hgp, hx, hy, trivial⟩, trivial, trivial⟩ (LR.value ho hg rfl hd.symm (Eb hd hn) ?_)
 intro G st a w hs hpre
 obtain ⟨hx, hy, _⟩ := (Aw.1 hpre.r).2
 have h1 : a.eval x = .int k a0 := EL (hs.opd hx : Et w G.S (a.eval x) (.val _))
 have h2 : a.eval y = .int k2 b0 := EL (hs.opd hy : Et w G.S (a.eval y) (.val _))
 refine ⟨.int k (Q9 a0 b0), w, G, ?_, hs, ?_⟩
 ·simp only [execOp, hop]
  refine FW fun cs => ?_
  simp only [List.map_toArray, List.map_cons, List.map_nil, builtin, h1, h2]
  rfl
 ·rintro d ⟨⟩
  exact ⟨.val _ rfl, fun b hb => by cases hb⟩
theorem Qc {x : Operand} {s b k : Nat} (hat : At st.env ops i X.n (.nilCheck x) s gs) (hx : opd st.env x = some (.e (.one (.ptr b k))))
  (next : BA P X ops dr Q r (i + 1) (Di.upd ⟨gs ++ [(x, .e (.one (.ptr b k)))], [], some s, some (.e (.one (.ptr b k))), [], []⟩ st) ((i, ⟨gs ++ [(x, .e (.one (.ptr b k)))], [], some s, some (.e (.one (.ptr b k))), [], []⟩) :: log)) : BA P X ops dr Q (r + 1) i st log := by
 obtain ⟨o, ho, hop, hd, hn, hg, hgp⟩ := hat.out
 refine BA.step next ⟨Aw.2 ⟨hgp, hx, trivial⟩, trivial, trivial⟩ (LR.value ho hg rfl hd.symm (Eb hd hn) ?_)
 intro G st a w hs hpre
 obtain ⟨hx, _⟩ := (Aw.1 hpre.r).2
 obtain ⟨β, hβ, hv⟩ : Fu P w G (a.eval x) (.ptr b k) := hs.opd hx
 refine ⟨.pointer (some ⟨β, k, none⟩), w, G, ?_, hs, ?_⟩
 ·simp only [execOp, hop, hv]; rfl
 ·rintro d ⟨⟩
  exact ⟨⟨β, hβ, rfl⟩, fun b' hb' => hs.opd_live hx b' hb'⟩
def N7 (P : Program) (t : TypeId) : Bool := match P.underlying t with | some .string => true | _ => false
theorem RD {x y : Operand} {t s : Nat} {b : ByteArray} {k : IntKind} {n : Int} {c : UInt8} (hat : At st.env ops i X.n (.index t x y) s gs)
  (hx : opd st.env x = some (vD (.string b))) (hy : opd st.env y = some (vD (.int k n))) (ht : N7 P t = true) (h0 : 0 ≤ n) (hc : b[n.toNat]? = some c)
  (next : BA P X ops dr Q r (i + 1) (Di.upd ⟨gs ++ [(x, vD (.string b)), (y, vD (.int k n))], [], some s, some (vD (.int .u8 (c.toNat : Int))), [], []⟩ st) ((i, ⟨gs ++ [(x, vD (.string b)), (y, vD (.int k n))], [], some s, some (vD (.int .u8 (c.toNat : Int))), [], []⟩) :: log)) : BA P X ops dr Q (r + 1) i st log := by
 obtain ⟨o, ho, hop, hd, hn, hg, hgp⟩ := hat.out
 refine BA.step next ⟨Aw.2 ⟨hgp, hx, hy, trivial⟩, trivial, trivial⟩ (LR.value ho hg rfl hd.symm (Eb hd hn) ?_)
 intro G st a w hs hpre
 obtain ⟨hx, hy, _⟩ := (Aw.1 hpre.r).2
 have h1 : a.eval x = .string b := EL (hs.opd hx : Et w G.S (a.eval x) (.val _))
 have h2 : a.eval y = .int k n := EL (hs.opd hy : Et w G.S (a.eval y) (.val _))
 refine ⟨.int .u8 (c.toNat : Int), w, G, ?_, hs, ?_⟩
 ·simp only [execOp, hop, h1, h2]
  refine Aq (a := .int .u8 (c.toNat : Int)) (w1 := w) ?_ rfl
  unfold N7 at ht
  split at ht
  ·rename_i hu
   unfold Instr.index
   refine Aq (a := (k, n)) (w1 := w) rfl ?_
   refine Aq (AR hu w) ?_
   simp only [h0, if_true, hc]
   rfl
  ·cases ht
 ·rintro d ⟨⟩
  exact ⟨.val _ rfl, fun b hb => by cases hb⟩
def OB (P : Program) (s : TypeId) : Bool := match P.underlying s with | some (.slice e) => (match P.underlying e with | some (.int .u8) => true | _ => false) | _ => false
theorem NZ {w : World} {a : Addr} {len cap : Nat} {xs : List Int} (h : (loadCells a len).run P w = .ok (xs.map fun n => Value.int .u8 n).toArray w) : (Conv.bytesToString (.slice (some a) len cap)).run P w = .ok (.string (Is xs)) w := by
 unfold Conv.bytesToString
 refine Aq h ?_
 have key : ∀ (xs : List Int) (s : ByteArray), (forIn (m := Sem) (xs.map fun n => Value.int .u8 n) s (fun c r => (match c with
   | .int .u8 n => pure (ForInStep.yield (r.push (UInt8.ofNat n.toNat)))
   | _ => do stuck "bytesToString: byte expected" : Sem (ForInStep ByteArray)))).run P w = .ok (xs.foldl (fun s n => s.push (UInt8.ofNat n.toNat)) s) w := by
  intro xs
  induction xs with
  | nil => intro s; rfl
  | cons x xs ih =>
   intro s
   rw [List.map_cons, List.forIn_cons]
   refine Aq (a := ForInStep.yield (s.push (UInt8.ofNat x.toNat))) (w1 := w) rfl ?_
   exact ih _
 have h2 := key xs ByteArray.empty
 rw [← List.forIn_toArray] at h2
 refine Aq (a := Is xs) (w1 := w) ?_ rfl
 exact h2
theorem Rx {x : Operand} {t t2 s : Nat} {d : D} {rb : List (Nat × BO)} {rows : List (List T)} (xs : List Int) (hat : At st.env ops i X.n (.convert t t2 x) s gs)
  (hx : opd st.env x = some d) (hS : Nk d rb 1 rows) (hb : HA st.bx rb) (hr : rows = xs.map fun n => [T.val (.int .u8 n)]) (ht : OB P t = true) (ht2 : N7 P t2 = true)
  (next : BA P X ops dr Q r (i + 1) (Di.upd ⟨gs ++ [(x, d)], rb, some s, some (vD (.string (Is xs))), [], []⟩ st) ((i, ⟨gs ++ [(x, d)], rb, some s, some (vD (.string (Is xs))), [], []⟩) :: log)) : BA P X ops dr Q (r + 1) i st log := by
 obtain ⟨o, ho, hop, hd, hn, hg, hgp⟩ := hat.out
 refine BA.step next ⟨Aw.2 ⟨hgp, hx, trivial⟩, hb, trivial⟩ (LR.value ho hg rfl hd.symm (Eb hd hn) ?_)
 intro G st a w hs hpre
 obtain ⟨hx, _⟩ := (Aw.1 hpre.r).2
 have hb := hpre.b
 obtain ⟨p, cap, h1, h2⟩ := hs.srcW hx hS hb
 subst hr
 refine ⟨.string (Is xs), w, G, ?_, hs, ?_⟩
 ·simp only [execOp, hop]
  refine Aq (a := .string (Is xs)) (w1 := w) ?_ rfl
  unfold OB at ht
  split at ht
  ·rename_i e hu
   split at ht
   ·rename_i hu2
    unfold N7 at ht2
    split at ht2
    ·rename_i hu3
     unfold convert
     refine Aq (AR hu w) ?_
     refine Aq (AR hu3 w) ?_
     rw [h1]
     simp only [List.length_map]
     refine Aq (AR hu2 w) ?_
     rcases h2 with h2 | ⟨β, off, arr, el, fz, h3, h4, h5⟩
     ·have hx0 : xs = [] := by simpa using h2
      subst hx0
      cases p with
      | none => rfl
      | some q => exact NZ (xs := []) (by unfold loadCells loadCellsFrom; rfl)
     ·subst h3
      refine NZ ?_
      have hsz : off + xs.length ≤ arr.size := by have := h5.1; simpa using this
      rw [Hw h4 hsz]
      congr 1
      apply congrArg List.toArray
      apply List.ext_getElem?
      intro j
      rw [List.getElem?_map, List.getElem?_map]
      by_cases hj : j < xs.length
      ·have hxj : xs[j]? = some xs[j] := by simp [hj]
       rw [List.getElem?_range hj, hxj]
       simp only [Option.map_some, Option.some.injEq]
       have hrow : (xs.map fun n => [T.val (.int .u8 n)])[j]? = some [T.val (.int .u8 xs[j])] := by rw [List.getElem?_map, hxj]; rfl
       have := h5.2.2 j _ 0 _ hrow rfl
       rw [Nat.mul_one, Nat.add_zero] at this
       exact EL this
      ·rw [List.getElem?_eq_none (by simp; omega), List.getElem?_eq_none (by omega)]; rfl
    ·cases ht2
   ·cases ht
  ·cases ht
 ·rintro d ⟨⟩
  exact ⟨.val _ rfl, fun b hb => by cases hb⟩
end run
section maps
variable {K V : Type}
def KQ [BEq K] (k : K) : List (K × V) → Option V
 | [] => none
 | p :: r => if k == p.1 then some p.2 else KQ k r
def LD [BEq K] (k : K) (v : V) : List (K × V) → List (K × V)
 | [] => [(k, v)]
 | p :: r => if k == p.1 then (k, v) :: r else p :: LD k v r
def IY (kv : K → Value) (vt : V → T) (m : List (K × V)) : List (Value × T) := m.map fun p => (kv p.1, vt p.2)
end maps
structure Sf {K : Type} [BEq K] (P : Program) (t : TypeId) (kv : K → Value) : Prop where
 ty : ∃ kt el kd, P.underlying t = some (.map kt el) ∧ P.underlying kt = some kd ∧ (∀ a b : K, Instr.sameNow kd (kv a) (kv b) = some (a == b)) ∧ (∀ (e : Bool) (n : Nat) (v : K) (w : World), (Instr.checkKey e (n + 1) kt (kv v)).run P w = .ok () w)
 same : ∀ a b : K, (a == b) = true → Instr.sameBits 10000 (kv b) (kv a) = true
theorem JR {K V : Type} [BEq K] {kd : TypeDesc} {kv : K → Value} (h : ∀ a b : K, Instr.sameNow kd (kv a) (kv b) = some (a == b)) (k : K) : ∀ (m : List (K × V)) (es : List MapEntry) (i : Nat), es.length = m.length → (∀ (j : Nat) (p : K × V), m[j]? = some p → ∃ e : MapEntry, es[j]? = some e ∧ e.key = kv p.1) →
  (KQ k m = none ∧ Instr.findNow kd (kv k) es i = some none) ∨ ∃ j p e, m[j]? = some p ∧ es[j]? = some e ∧ (k == p.1) = true ∧ KQ k m = some p.2 ∧ Instr.findNow kd (kv k) es i = some (some (i + j, e.val)) ∧ (∀ v, LD k v m = m.set j (k, v))
 | [], [], i, _, _ => .inl ⟨rfl, rfl⟩
 | p :: m, e :: es, i, hl, hp => by
  obtain ⟨e0, h0, h1⟩ := hp 0 p rfl
  simp at h0; subst h0
  have h2 := h k p.1
  by_cases hk : (k == p.1) = true
  ·refine .inr ⟨0, p, e, rfl, rfl, hk, ?_, ?_, fun v => ?_⟩
   ·simp only [KQ, hk, if_true]
   ·simp only [Instr.findNow, h1, h2, hk]; rfl
   ·simp only [LD, hk, if_true]; rfl
  ·have hk' : (k == p.1) = false := by simpa using hk
   rcases JR h k m es (i + 1) (by simpa using hl) (fun j q hq => hp (j + 1) q (by simpa using hq)) with ⟨g1, g2⟩ | ⟨j, q, e', g1, g2, g3, g4, g5, g6⟩
   ·refine .inl ⟨?_, ?_⟩
    ·simp only [KQ, hk']; exact g1
    ·simp only [Instr.findNow, h1, h2, hk']; exact g2
   ·refine .inr ⟨j + 1, q, e', by simpa using g1, by simpa using g2, g3, ?_, ?_, fun v => ?_⟩
    ·simp only [KQ, hk']; exact g4
    ·simp only [Instr.findNow, h1, h2, hk']; rw [g5]; simp [Nat.add_assoc, Nat.add_comm 1]
    ·simp only [LD, hk']; rw [g6 v]; rfl
theorem Lz {K V : Type} [BEq K] (k : K) (v : V) : ∀ {m : List (K × V)}, KQ k m = none → LD k v m = m ++ [(k, v)]
 | [], _ => rfl
 | p :: m, h => by
  simp only [KQ] at h
  split at h
  ·cases h
  ·rename_i hk
   simp only [LD]; rw [if_neg hk, Lz k v h]; rfl
section run
variable {dr : Bool} {Q : St → Prop} {r i : Nat} {st : St} {log : List (Nat × Di)} {o : Oper} {gs : List (Operand × D)}
theorem Q7 {t s : Nat} (hat : At st.env ops i X.n (.makeMap t none) s gs) (hnew : st.bx s = none)
  (next : BA P X ops dr Q r (i + 1) (Di.upd ⟨gs, [], some s, some (.e (.one (.mref s))), [(s, .mp [])], [s]⟩ st) ((i, ⟨gs, [], some s, some (.e (.one (.mref s))), [(s, .mp [])], [s]⟩) :: log)) : BA P X ops dr Q (r + 1) i st log := by
 obtain ⟨o, ho, hop, hd, hn, hg, hgp⟩ := hat.out
 refine BA.step next ⟨hgp, trivial, hnew, trivial⟩ (LR.value (rs := []) ho hg (by simp) hd.symm (Eb hd hn) ?_)
 intro G st a w hs hpre
 have hnew := hpre.n.1
 have key := hs.newB (.map #[] 0) s (.mp []) undef (hs.nl hn) hnew
  ⟨w.heap.size, #[], 0, by simp [Gh.set], by rw [Ex, if_pos rfl], rfl, fun i x h => by simp at h⟩ (fun c hc => by cases hc)
 refine ⟨.map (some w.heap.size), _, _, ?_, key, ?_⟩
 ·simp only [execOp, hop]
  exact Aq (a := .map (some w.heap.size)) (w1 := w.alloc (.map #[] 0)) rfl rfl
 ·rintro d ⟨⟩
  refine ⟨⟨w.heap.size, by simp [Gh.set], rfl⟩, fun b hb => ?_⟩
  simp [D.names, E.names, C.names] at hb
  subst hb; simp [BJ]
theorem DT.mpAt {G : Gh} {a : Act} {w : World} (hs : DT P X G st a w) {x : Operand} {b : Nat} {es : List (Value × T)} (hx : Lift.opd st.env x = some (.e (.one (.mref b)))) (hb : st.bx b = some (.mp es)) :
  ∃ β arr clock, a.eval x = .map (some β) ∧ G.loc b = some β ∧ w.heap[β]? = some (.map arr clock) ∧ arr.size = es.length ∧ ∀ (i : Nat) (y : Value × T), es[i]? = some y → ∃ m : MapEntry, arr[i]? = some m ∧ m.key = y.1 ∧ Et w G.S m.val y.2 := by
 obtain ⟨β, hβ, hv⟩ : Fu P w G (a.eval x) (.mref b) := hs.opd hx
 obtain ⟨β', arr, clock, h1, h2, h3, h4⟩ := hs.blk b _ hb
 rw [hβ] at h1; cases h1
 exact ⟨β, arr, clock, hv, hβ, h2, h3, h4⟩
theorem Jo {β : Nat} {arr : Array MapEntry} {clock : Nat} {w : World} (h : w.heap[β]? = some (.map arr clock)) : (getObj β).run P w = .ok (.map arr clock) w := by
 simp [getObj, Sem.run, h]
theorem M4 {β : Nat} {arr : Array MapEntry} {clock : Nat} {o : Obj} {w : World} (h : w.heap[β]? = some (.map arr clock)) : (setObj β o).run P w = .ok () (GV w β o) := by
 simp [setObj, Sem.run, h, GV]
theorem It {K V : Type} [BEq K] {kt : TypeId} {kd : TypeDesc} {kv : K → Value} {k : K} {es : List MapEntry} {r : Option (Nat × Value)} {w : World} (hu : P.underlying kt = some kd) (h : Instr.findNow kd (kv k) es 0 = some r) : (Instr.findKey kt (kv k) es).run P w = .ok r w := by
 unfold Instr.findKey
 refine Aq (AR hu w) ?_
 rw [h]; rfl
theorem SB {K V : Type} [BEq K] {t s b el : Nat} {x y : Operand} {c : Bool} {z : Value} {kv : K → Value} {vt : V → T} {m : List (K × V)} {k : K} {dv v0 : V} (hat : At st.env ops i X.n (.lookup t x y c) s gs)
  (hx : opd st.env x = some (.e (.one (.mref b)))) (hy : opd st.env y = some (vD (kv k))) (hb : st.bx b = some (.mp (IY kv vt m))) (hk : Sf P t kv) (hel : (match P.underlying t with | some (.map _ e) => e == el | _ => false) = true) (hz : EQ P el = some z) (hzv : vt dv = .val z) (hz1 : G8 z = true) (hv0 : (KQ k m).getD dv = v0)
  (next : BA P X ops dr Q r (i + 1) (Di.upd ⟨gs ++ [(x, .e (.one (.mref b))), (y, vD (kv k))], [(b, .mp (IY kv vt m))], some s, some (if c then .tup [.one (.pure (vt v0)), .one (.pure (.val (.bool (KQ k m).isSome)))] else one (vt v0)), [], []⟩ st) ((i, ⟨gs ++ [(x, .e (.one (.mref b))), (y, vD (kv k))], [(b, .mp (IY kv vt m))], some s, some (if c then .tup [.one (.pure (vt v0)), .one (.pure (.val (.bool (KQ k m).isSome)))] else one (vt v0)), [], []⟩) :: log)) : BA P X ops dr Q (r + 1) i st log := by
 obtain ⟨o, ho, hop, hd, hn, hg, hgp⟩ := hat.out
 refine BA.step next ⟨Aw.2 ⟨hgp, hx, hy, trivial⟩, ⟨hb, trivial⟩, trivial⟩ (LR.value ho hg rfl hd.symm (Eb hd hn) ?_)
 intro G st a w hs hpre
 obtain ⟨hx, hy, _⟩ := (Aw.1 hpre.r).2
 have hb := hpre.b.1
 obtain ⟨β, arr, clock, h1, h2, h3, h4, h5⟩ := hs.mpAt hx hb
 have hY : a.eval y = kv k := EL (hs.opd hy : Et w G.S (a.eval y) (.val _))
 obtain ⟨kt, el', kd, u1, u2, u3, u4⟩ := hk.ty
 rw [u1] at hel
 have hel' : el' = el := by simpa using hel
 subst hel'
 have hes : ∀ (j : Nat) (p : K × V), m[j]? = some p → ∃ e : MapEntry, arr.toList[j]? = some e ∧ e.key = kv p.1 ∧ Et w G.S e.val (vt p.2) := fun j p hp => by
  obtain ⟨e, e1, e2, e3⟩ := h5 j (kv p.1, vt p.2) (by unfold IY; rw [List.getElem?_map, hp]; rfl)
  exact ⟨e, by simpa using e1, e2, e3⟩
 have hfin : ∃ v, (Instr.lookup t (.map (some β)) (kv k) c).run P w = .ok (if c then .tuple #[v, .bool (KQ k m).isSome] else v) w ∧ Et w G.S v (vt v0) := by
  rcases JR (V := V) u3 k m arr.toList 0 (by simp [h4, IY]) (fun j p hp => by obtain ⟨e, e1, e2, _⟩ := hes j p hp; exact ⟨e, e1, e2⟩) with ⟨g1, g2⟩ | ⟨j, q, e, g1, g2, g3, g4, g5, _⟩
  ·refine ⟨z, ?_, ?_⟩
   ·rw [g1]
    unfold Instr.lookup
    refine Aq (AR u1 w) ?_
    refine Aq (Jo h3) ?_
    refine Aq (a := arr) (w1 := w) rfl ?_
    refine Aq (u4 _ _ _ _) ?_
    refine Aq (It (V := V) u2 g2) ?_
    refine Aq (FA hz w) ?_
    exact Aq (a := (z, false)) (w1 := w) rfl rfl
   ·rw [← hv0, g1, Option.getD_none, hzv]; exact .val _ hz1
  ·refine ⟨e.val, ?_, ?_⟩
   ·rw [g4]
    unfold Instr.lookup
    refine Aq (AR u1 w) ?_
    refine Aq (Jo h3) ?_
    refine Aq (a := arr) (w1 := w) rfl ?_
    refine Aq (u4 _ _ _ _) ?_
    refine Aq (It (V := V) u2 g5) ?_
    exact Aq (a := (e.val, true)) (w1 := w) rfl rfl
   ·obtain ⟨e', e1, _, e3⟩ := hes j q g1
    rw [g2] at e1; cases e1
    rw [← hv0, g4]; exact e3
 obtain ⟨v, hv1, hv2⟩ := hfin
 refine ⟨(if c then .tuple #[v, .bool (KQ k m).isSome] else v), w, G, ?_, hs, ?_⟩
 ·simp only [execOp, hop, h1, hY]
  exact Aq hv1 rfl
 ·rintro d hd'
  cases c with
  | false => cases hd'; exact ⟨hv2, fun b hb => by cases hb⟩
  | true =>
   cases hd'
   refine ⟨⟨_, rfl, rfl, fun j x hj => ?_⟩, fun b hb => by simp [D.names, Lx, E.names, C.names] at hb⟩
   match j, hj with
   | 0, hj => cases hj; exact hv2
   | 1, hj => cases hj; exact .val _ rfl
theorem Pq {K V : Type} [BEq K] {t b : Nat} {x y u : Operand} {kv : K → Value} {vt : V → T} {m m' : List (K × V)} {k : K} {v : V} {op : Op} (hat : Pa ops i = some op) (hop' : op = .mapUpdate t x y u ∨ op = .insert t x y u)
  (hx : opd st.env x = some (.e (.one (.mref b)))) (hy : opd st.env y = some (vD (kv k))) (hu : opd st.env u = some (one (vt v))) (hb : st.bx b = some (.mp (IY kv vt m))) (hk : Sf P t kv) (hm : LD k v m = m')
  (next : BA P X ops dr Q r (i + 1) (Di.upd ⟨[(x, .e (.one (.mref b))), (y, vD (kv k)), (u, one (vt v))], [(b, .mp (IY kv vt m))], none, none, [(b, .mp (IY kv vt m'))], []⟩ st) ((i, ⟨[(x, .e (.one (.mref b))), (y, vD (kv k)), (u, one (vt v))], [(b, .mp (IY kv vt m))], none, none, [(b, .mp (IY kv vt m'))], []⟩) :: log)) : BA P X ops dr Q (r + 1) i st log := by
 obtain ⟨o, ho, hop, hd, hgn⟩ := Md hat
 have hg : Rs ops o [] := .none hgn
 refine BA.step next ⟨⟨hx, hy, hu, trivial⟩, ⟨hb, trivial⟩, trivial⟩ (LR.skip (rs := [(x, .e (.one (.mref b))), (y, vD (kv k)), (u, one (vt v))]) ho hg rfl hd rfl ?_)
 intro G st a w hs hpre
 obtain ⟨hx, hy, hu, _⟩ := hpre.r
 have hb := hpre.b.1
 subst hm
 obtain ⟨β, arr, clock, h1, h2, h3, h4, h5⟩ := hs.mpAt hx hb
 have hY : a.eval y = kv k := EL (hs.opd hy : Et w G.S (a.eval y) (.val _))
 have hU : Et w G.S (a.eval u) (vt v) := hs.opd hu
 obtain ⟨kt, el', kd, u1, u2, u3, u4⟩ := hk.ty
 have hes : ∀ (j : Nat) (p : K × V), m[j]? = some p → ∃ e : MapEntry, arr.toList[j]? = some e ∧ e.key = kv p.1 ∧ Et w G.S e.val (vt p.2) := fun j p hp => by
  obtain ⟨e, e1, e2, e3⟩ := h5 j (kv p.1, vt p.2) (by unfold IY; rw [List.getElem?_map, hp]; rfl)
  exact ⟨e, by simpa using e1, e2, e3⟩
 have hat := hs.at_ok b _ β hb rfl (.inl h2)
 have hml : arr.size = m.length := by rw [h4]; simp [IY]
 have fin : ∀ arr' clock', arr'.size = (LD k v m).length → (∀ (j : Nat) (p : K × V), (LD k v m)[j]? = some p → ∃ e : MapEntry, arr'[j]? = some e ∧ e.key = kv p.1 ∧ Et w G.S e.val (vt p.2)) →
   DT P X G ⟨st.env, BJ st.bx [(b, .mp (IY kv vt (LD k v m)))]⟩ a (GV w β (.map arr' clock')) := by
  intro arr' clock' k1 k2
  have hS : ∀ γ, G.S γ → (GV w β (.map arr' clock')).heap[γ]? = w.heap[γ]? := fun γ hγ => by
   rw [EJ, if_neg (fun (h : γ = β ∧ β < w.heap.size) => hat.2.2 (h.1 ▸ hγ))]
  refine hs.setB (b := b) (k0 := .mp (IY kv vt m)) hb rfl rfl (.inl h2) ⟨β, arr', clock', h2, by rw [EJ, if_pos ⟨rfl, hat.2.1⟩], by rw [k1]; simp [IY], fun j y hy => ?_⟩ (fun c hc => by cases hc)
  unfold IY at hy
  rw [List.getElem?_map] at hy
  cases hp : (LD k v m)[j]? with
  | none => rw [hp] at hy; cases hy
  | some p =>
   rw [hp] at hy; cases hy
   obtain ⟨e, e1, e2, e3⟩ := k2 j p hp
   exact ⟨e, e1, e2, e3.mono hS fun _ h => h⟩
 have hrun : ∀ w', (Instr.mapUpdate t (.map (some β)) (kv k) (a.eval u)).run P w = .ok () w' → (execOp a.eval o).run P w = .ok .skip w' := fun w' h => by
  rcases hop' with e | e
  ·simp only [execOp, hop, e, h1, hY]; exact Aq h rfl
  ·simp only [execOp, hop, e, h1, hY]; exact Aq h rfl
 rcases JR (V := V) u3 k m arr.toList 0 (by simp [hml]) (fun j p hp => by obtain ⟨e, e1, e2, _⟩ := hes j p hp; exact ⟨e, e1, e2⟩) with ⟨g1, g2⟩ | ⟨j, q, e, g1, g2, g3, g4, g5, g6⟩
 ·refine ⟨_, G, hrun _ ?_, fin (arr.push { key := kv k, val := a.eval u, born := clock }) (clock + 1) ?_ ?_⟩
  ·unfold Instr.mapUpdate
   refine Aq (AR u1 w) ?_
   refine Aq (Jo h3) ?_
   refine Aq (u4 _ _ _ _) ?_
   refine Aq (It (V := V) u2 g2) ?_
   exact M4 h3
  ·rw [Lz k v g1]; simp [hml]
  ·intro j p hp
   rw [Lz k v g1] at hp
   by_cases hj : j < m.length
   ·rw [List.getElem?_append_left hj] at hp
    obtain ⟨e, e1, e2, e3⟩ := hes j p hp
    refine ⟨e, ?_, e2, e3⟩
    rw [Array.getElem?_push, if_neg (by omega)]
    simpa using e1
   ·rw [List.getElem?_append_right (by omega)] at hp
    have hj0 : j - m.length = 0 := by have := AS hp; simp at this; omega
    rw [hj0] at hp; cases hp
    exact ⟨{ key := kv k, val := a.eval u, born := clock }, by rw [Array.getElem?_push, if_pos (by omega)], rfl, hU⟩
 ·have hjm := AS g1
  have hje : arr[j]? = some e := by simpa using g2
  have hek : e.key = kv q.1 := by obtain ⟨e', e1, e2, _⟩ := hes j q g1; rw [g2] at e1; cases e1; exact e2
  refine ⟨_, G, hrun _ ?_, fin (arr.modify j fun e => { e with key := kv k, val := a.eval u }) clock ?_ ?_⟩
  ·unfold Instr.mapUpdate
   refine Aq (AR u1 w) ?_
   refine Aq (Jo h3) ?_
   refine Aq (u4 _ _ _ _) ?_
   refine Aq (It (V := V) u2 g5) ?_
   simp only [Nat.zero_add]
   refine Aq (a := kv k) (w1 := w) ?_ (M4 h3)
   rw [hje]
   simp only [Option.map_some, Option.getD_some]
   unfold Instr.keyThatStays
   rw [hek, hk.same k q.1 g3]; rfl
  ·rw [g6 v]; simp [hml]
  ·intro j' p hp
   rw [g6 v] at hp
   rw [Array.getElem?_modify]
   rcases Me hp with ⟨rfl, rfl⟩ | ⟨hne, hp⟩
   ·rw [if_pos rfl, hje]
    exact ⟨_, rfl, rfl, hU⟩
   ·rw [if_neg (fun h => hne h.symm)]
    obtain ⟨e', e1, e2, e3⟩ := hes j' p hp
    exact ⟨e', by simpa using e1, e2, e3⟩
end run
end Go.Lift

/- Slices within slices that are nobody else's: taken out, put back, appended, given over to sharing. No condition. -/
namespace Go.Lift
open Go.RowKit
variable {P : Program} {X : Js} {ops : Array Oper}
section run
variable {dr : Bool} {Q : St → Prop} {r i : Nat} {st : St} {log : List (Nat × Di)} {o : Oper} {gs : List (Operand × D)}
def Xb : Ow → Bool
 | .s => true
 | _ => false
end run
def RP (e : Nat) (cols : List Ow) (rows : List (List T)) : BO := if cols.all Xb then .vec e rows else .dvec e cols rows
section run
variable {dr : Bool} {Q : St → Prop} {r i : Nat} {st : St} {log : List (Nat × Di)} {o : Oper} {gs : List (Operand × D)}
end run
end Go.Lift

/- Slices within slices: append, and giving over to sharing. No condition. -/
namespace Go.Lift
open Go.RowKit
variable {P : Program} {X : Js} {ops : Array Oper}
section run
variable {dr : Bool} {Q : St → Prop} {r i : Nat} {st : St} {log : List (Nat × Di)} {o : Oper} {gs : List (Operand × D)}
structure NW (w : World) (S : Nat → Prop) (e : Nat) (cols : List Ow) (rows : List (List T)) (Rf : Nat → Nat → Nat → Prop) (f : Nat → Value) : Prop where
 len : ∀ (i : Nat) (row : List T), rows[i]? = some row → row.length = e
 cell : ∀ (i : Nat) (row : List T) (j : Nat) (t : T), rows[i]? = some row → row[j]? = some t → Rk w S (cols.getD j .s) (Rf i j) (f (i * e + j)) t
 dis : ∀ i j i' j' γ, Rf i j γ → Rf i' j' γ → i = i' ∧ j = j'
theorem NW.ones {w : World} {S : Nat → Prop} {e : Nat} {cols : List Ow} {rows : List (List T)} {Rf : Nat → Nat → Nat → Prop} {arr : Array Value} (h : NW w S e cols rows Rf (AG arr)) (hs : arr.size = rows.length * e) : ∀ u, u ∈ arr.toList → G8 u = true := by
 intro u hu
 obtain ⟨k, hk⟩ := List.mem_iff_getElem?.1 hu
 have hk' : arr[k]? = some u := by simpa using hk
 have hlt : k < arr.size := by
  rcases Nat.lt_or_ge k arr.size with h' | h'
  ·exact h'
  ·rw [Array.getElem?_eq_none h'] at hk'; cases hk'
 rcases Nat.eq_zero_or_pos e with e0 | e0
 ·rw [e0, Nat.mul_zero] at hs; omega
 have h1 : k / e < rows.length := (Nat.div_lt_iff_lt_mul e0).2 (by omega)
 have h2 : k % e < e := Nat.mod_lt _ e0
 have hrow : rows[k / e]? = some rows[k / e] := by simp [h1]
 have hlen := h.len _ _ hrow
 have hcell : (rows[k / e])[k % e]? = some ((rows[k / e])[k % e]'(by omega)) := by simp [show k % e < rows[k / e].length from by omega]
 have := (h.cell _ _ _ _ hrow hcell).one
 rw [show k / e * e + k % e = k from by rw [Nat.mul_comm]; exact Nat.div_add_mod k e] at this
 simpa [AG, hk'] using this
theorem NW.app {w w' : World} {S : Nat → Prop} {e : Nat} {cols : List Ow} {rows rows2 : List (List T)} {Rf Rf2 : Nat → Nat → Nat → Prop} {f f2 g : Nat → Value} (h1 : NW w S e cols rows Rf f) (h2 : NW w S e cols rows2 Rf2 f2)
  (hx : ∀ i j i' j' γ, Rf i j γ → Rf2 i' j' γ → False) (hg1 : ∀ j, j < rows.length * e → g j = f j) (hg2 : ∀ j, j < rows2.length * e → g (rows.length * e + j) = f2 j)
  (hw : ∀ γ, S γ ∨ (∃ i j, Rf i j γ ∨ Rf2 i j γ) → w'.heap[γ]? = w.heap[γ]?) : NW w' S e cols (rows ++ rows2) (fun i j γ => if i < rows.length then Rf i j γ else Rf2 (i - rows.length) j γ) g := by
 have hlen : ∀ (i : Nat) (row : List T), (rows ++ rows2)[i]? = some row → row.length = e := fun i row hi => by
  rcases Nat.lt_or_ge i rows.length with h | h
  ·rw [List.getElem?_append_left h] at hi; exact h1.len i row hi
  ·rw [List.getElem?_append_right h] at hi; exact h2.len _ row hi
 refine ⟨hlen, fun i row j t hi hj => ?_, fun i j i' j' γ hγ hγ' => ?_⟩
 ·have hj' := AS hj
  have he := hlen i row hi
  rcases Nat.lt_or_ge i rows.length with h | h
  ·rw [List.getElem?_append_left h] at hi
   have hle : i * e + e ≤ rows.length * e := by rw [← Nat.succ_mul]; exact Nat.mul_le_mul_right e h
   rw [hg1 _ (by omega)]
   exact (h1.cell i row j t hi hj).mono (fun γ hγ => hw γ (hγ.imp id fun hr => ⟨i, j, .inl hr⟩)) (fun _ h => h) (fun γ hγ => by rw [if_pos h]; exact hγ)
  ·rw [List.getElem?_append_right h] at hi
   have hi2 := AS hi
   have hle : (i - rows.length) * e + e ≤ rows2.length * e := by rw [← Nat.succ_mul]; exact Nat.mul_le_mul_right e hi2
   have hsplit : i * e + j = rows.length * e + ((i - rows.length) * e + j) := by
    rw [← Nat.add_assoc, ← Nat.add_mul, show rows.length + (i - rows.length) = i from by omega]
   rw [hsplit, hg2 _ (by omega)]
   exact (h2.cell _ row j t hi hj).mono (fun γ hγ => hw γ (hγ.imp id fun hr => ⟨_, j, .inr hr⟩)) (fun _ h => h) (fun γ hγ => by rw [if_neg (by omega)]; exact hγ)
 ·split at hγ <;> split at hγ'
  ·exact h1.dis i j i' j' γ hγ hγ'
  ·exact (hx _ _ _ _ γ hγ hγ').elim
  ·exact (hx _ _ _ _ γ hγ' hγ).elim
  ·have := h2.dis _ j _ j' γ hγ hγ'
   exact ⟨by omega, this.2⟩
end run
end Go.Lift

/- The rules for parts of own slices at typed lists. No condition. -/
namespace Go.Lift
open Go.RowKit
variable {P : Program} {X : Js} {ops : Array Oper}
theorem HB {α : Type} (f : α → List T) (b e : Nat) (xs : List α) : L6 (.e (.one (.own b))) b e (xs.map f) 0 xs.length := by
 have := L6.own b e (xs.map f)
 rwa [List.length_map] at this
theorem Lo {α : Type} (f : α → List T) (b e lo len : Nat) (xs : List α) (h : lo + len ≤ xs.length) : L6 (.e (.one (.view b e lo len))) b e (xs.map f) lo len := .view b e _ lo len (by simpa using h)
theorem QV {α : Type} (f : α → List T) (b e lo len : Nat) (xs : List α) (h : lo + len ≤ xs.length) : Nk (.e (.one (.view b e lo len))) [(b, .vec e (xs.map f))] e (((xs.drop lo).take len).map f) := by
 have := Nk.view b e (xs.map f) lo len (by simpa using h)
 rwa [← List.map_drop, ← List.map_take] at this
theorem RM {α : Type} (f : α → List T) (b e : Nat) (xs : List α) : Nk (.e (.one (.own b))) [(b, .vec e (xs.map f))] e (xs.map f) := .of (.own _ _ _)
theorem Ti {α : Type} (f : α → List T) (e : Nat) (xs : List α) (h : ∀ x, (f x).length = e) : Nk (one (.sl (xs.map f))) [] e (xs.map f) := .of (.sl _ _ (Pd h xs))
section run
variable {dr : Bool} {Q : St → Prop} {r i : Nat} {st : St} {log : List (Nat × Di)} {o : Oper} {gs : List (Operand × D)}
theorem Ie {α : Type} (f : α → List T) (xs : List α) {x : Operand} {t el s e l h b lo0 len lo1 len1 : Nat} {lo hi : Option Operand} {rl rh : List (Operand × D)} {d : D} (hat : At st.env ops i X.n (.slice t x lo hi none) s gs)
  (hx : opd st.env x = some d) (hD : L6 d b e (xs.map f) lo0 len) (hb : st.bx b = some (.vec e (xs.map f))) (ht : sliceB P t el = true) (he : HE P el e = true) (hlo : SM lo 0 l rl) (hhi : SM hi len h rh) (h1 : Gd st.env rl) (h2 : Gd st.env rh) (hlh : l ≤ h) (hhl : lo0 + h ≤ xs.length) (e1 : lo0 + l = lo1) (e2 : h - l = len1)
  (next : BA P X ops dr Q r (i + 1) (Di.upd ⟨gs ++ ((x, d) :: (rl ++ rh)), [(b, .vec e (xs.map f))], some s, some (.e (.one (.view b e lo1 len1))), [], []⟩ st) ((i, ⟨gs ++ ((x, d) :: (rl ++ rh)), [(b, .vec e (xs.map f))], some s, some (.e (.one (.view b e lo1 len1))), [], []⟩) :: log)) : BA P X ops dr Q (r + 1) i st log := by
 subst e1; subst e2
 exact Sv hat hx hD hb ht he hlo hhi h1 h2 hlh (by simpa using hhl) next
theorem Qx {α : Type} (f : α → List T) (xs ys : List α) {x y : Operand} {t t2 el s e b lo len : Nat} {d d2 : D} {rb2 : List (Nat × BO)} (hat : At st.env ops i X.n (.call ⟨.builtin .copy, #[x, y], #[t, t2]⟩) s gs)
  (hx : opd st.env x = some d) (hD : L6 d b e (xs.map f) lo len) (hb : st.bx b = some (.vec e (xs.map f))) (hy : opd st.env y = some d2) (hS : Nk d2 rb2 e (ys.map f)) (hb2 : HA st.bx rb2) (ht : sliceB P t el = true) (he : HE P el e = true)
  (next : BA P X ops dr Q r (i + 1) (Di.upd ⟨gs ++ [(x, d), (y, d2)], (b, .vec e (xs.map f)) :: rb2, some s, some (vD (.int .i64 ((Nat.min ys.length len : Nat) : Int))), [(b, .vec e ((HU xs lo (ys.take (Nat.min ys.length len))).map f))], []⟩ st) ((i, ⟨gs ++ [(x, d), (y, d2)], (b, .vec e (xs.map f)) :: rb2, some s, some (vD (.int .i64 ((Nat.min ys.length len : Nat) : Int))), [(b, .vec e ((HU xs lo (ys.take (Nat.min ys.length len))).map f))], []⟩) :: log)) : BA P X ops dr Q (r + 1) i st log := by
 have hl : (ys.map f).length = ys.length := List.length_map _
 refine Ur hat hx hD hb hy hS hb2 ht he (rows' := (HU xs lo (ys.take (Nat.min ys.length len))).map f) ?_ ?_
 ·rw [hl, ← List.map_take, QT]
 ·rw [hl]; exact next
theorem O9 {α : Type} (f : α → List T) (xs : List α) (z0 : α) {x : Operand} {t el b e lo len : Nat} {z : Value} {zs : List Value} {d : D} (hop0 : Pa ops i = some (.call ⟨.builtin .clear, #[x], #[t]⟩))
  (hx : opd st.env x = some d) (hD : L6 d b e (xs.map f) lo len) (hb : st.bx b = some (.vec e (xs.map f))) (ht : sliceB P t el = true) (hz : EQ P el = some z) (hzs : z.cells.toList = zs) (hz1 : zs.all G8 = true) (hze : zs.length = e) (hf : (zs.map fun v => (T.of v).nrm) = f z0)
  (next : BA P X ops dr Q r (i + 1) (Di.upd ⟨[(x, d)], [(b, .vec e (xs.map f))], none, none, [(b, .vec e ((HU xs lo (List.replicate len z0)).map f))], []⟩ st) ((i, ⟨[(x, d)], [(b, .vec e (xs.map f))], none, none, [(b, .vec e ((HU xs lo (List.replicate len z0)).map f))], []⟩) :: log)) : BA P X ops dr Q (r + 1) i st log := by
 refine R1 hop0 hx hD hb ht hz hzs hz1 hze (rows' := (HU xs lo (List.replicate len z0)).map f) ?_ next
 rw [hf, ← QT]; simp
theorem TC {x : Operand} {s t el b e lo len : Nat} (hat : At st.env ops i X.n (.call ⟨.builtin .len, #[x], #[t]⟩) s gs)
  (hx : opd st.env x = some (.e (.one (.view b e lo len)))) (ht : sliceB P t el = true)
  (next : BA P X ops dr Q r (i + 1) (Di.upd ⟨gs ++ [(x, .e (.one (.view b e lo len)))], [], some s, some (vD (.int .i64 (len : Int))), [], []⟩ st) ((i, ⟨gs ++ [(x, .e (.one (.view b e lo len)))], [], some s, some (vD (.int .i64 (len : Int))), [], []⟩) :: log)) : BA P X ops dr Q (r + 1) i st log := UT hat hx ht next
end run
theorem OR {α : Type} {st : St} (f : α → List T) (xs : List α) (s b e : Nat) (hs0 : st.env s = some (.e (.one (.own b)))) (hb : st.bx b = some (.vec e (xs.map f))) : GI P X st (St.put st (some s) (some (.e (.one (.view b e 0 xs.length))))) := by
 have := Q3 (P := P) (X := X) s b e (xs.map f) hs0 hb
 rwa [List.length_map] at this
theorem Si {α : Type} {st : St} (f : α → List T) (xs : List α) (s b n e len : Nat) (hs0 : st.env s = some (.e (.one (.view b e 0 len)))) (hb : st.bx b = some (.vec e (xs.map f))) (hn : st.bx n = none) (hlb : Ce b = false) (hln : Ce n = false) (hle : len ≤ xs.length) :
  GI P X st (St.put ⟨st.env, BJ st.bx [(n, .vec e ((xs.take len).map f)), (b, .gone)]⟩ (some s) (some (.e (.one (.own n))))) := by
 have := RU (P := P) (X := X) s b n e len (xs.map f) hs0 hb hn hlb hln (by simpa using hle)
 rwa [← List.map_take] at this
theorem Ny (a b : ByteArray) : (a == b) = (a.data == b.data) := by
 cases a; cases b; rfl
theorem Ks (a b : ByteArray) (h : (a == b) = true) : (b == a) = true := by
 rw [Ny] at h ⊢
 rw [beq_iff_eq] at h ⊢; exact h.symm
theorem Nb {c : Code} {Q : Exit → St → Prop} {st : St} (h : W P X c (fun e st => ∃ st', GI P X st st' ∧ Q e st') st) : W P X c Q st := by
 intro a w hs
 refine wp_mono (h a w hs) ?_
 rintro e a' w' ⟨st', ⟨st2, h1, h2⟩, h3⟩
 exact ⟨st2, h2, h1 a' w' h3⟩
def QD (f : Nat → Nat) (env : Nat → Option D) : List (Nat × D) → Prop
 | [] => True
 | (s, d) :: ps => env s = some (d.ren f) ∧ QD f env ps
def QA (f : Nat → Nat) (bx : Nat → Option BO) : List (Nat × BO) → Prop
 | [] => True
 | (b, k) :: ps => bx (f b) = some (k.ren f) ∧ QA f bx ps
def FX : List (Nat × BO) → List Nat
 | [] => []
 | (b, _) :: ps => b :: FX ps
def Mp (f : Nat → Nat) : List Nat → Bool
 | [] => true
 | b :: bs => (if Ce b then f b == b else !Ce (f b)) && Mp f bs
def U1 (b : Nat) : List Nat → Bool
 | [] => false
 | c :: cs => c == b || U1 b cs
def PE (ns : List Nat) : List (Nat × D) → Bool
 | [] => true
 | (_, d) :: ps => (d.names.all fun b => U1 b ns) && PE ns ps
def PF (ns : List Nat) : List (Nat × BO) → Bool
 | [] => true
 | (_, d) :: ps => (d.names.all fun b => U1 b ns) && PF ns ps
theorem PA {f : Nat → Nat} {env : Nat → Option D} : ∀ {el : List (Nat × D)}, QD f env el → S8 f env el
 | [], _ => trivial
 | (_, _) :: _, h => ⟨h.1, PA h.2⟩
theorem PL {f : Nat → Nat} {bx : Nat → Option BO} : ∀ {bl : List (Nat × BO)}, QA f bx bl → S1 f bx bl
 | [], _ => trivial
 | (_, _) :: _, h => ⟨h.1, PL h.2⟩
theorem N9 : ∀ bl : List (Nat × BO), FX bl = bl.map (·.1)
 | [] => rfl
 | (b, k) :: ps => by simp [FX, N9 ps]
theorem N0 {f : Nat → Nat} : ∀ bl : List (Nat × BO), Mp f (FX bl) = bl.all fun p => if Ce p.1 then f p.1 == p.1 else !Ce (f p.1)
 | [] => rfl
 | (b, k) :: ps => by simp only [FX, Mp, List.all_cons, N0 ps]
theorem Qa {b : Nat} : ∀ bl : List (Nat × BO), U1 b (FX bl) = bl.any fun q => q.1 == b
 | [] => rfl
 | (c, k) :: ps => by simp only [FX, U1, List.any_cons, Qa ps]
theorem PG (bl : List (Nat × BO)) : ∀ el : List (Nat × D), PE (FX bl) el = el.all fun p => p.2.names.all fun b => bl.any fun q => q.1 == b
 | [] => rfl
 | (s, d) :: ps => by simp only [PE, List.all_cons, PG bl ps, Qa]
theorem Pr (bl : List (Nat × BO)) : ∀ el : List (Nat × BO), PF (FX bl) el = el.all fun p => p.2.names.all fun b => bl.any fun q => q.1 == b
 | [] => rfl
 | (s, d) :: ps => by simp only [PF, List.all_cons, Pr bl ps, Qa]
theorem Sr {st : St} (f : Nat → Nat) (el : List (Nat × D)) (bl : List (Nat × BO)) (he : QD f st.env el) (hb : QA f st.bx bl) (hi : (IG ((FX bl).map f) && Mp f (FX bl)) = true) (hs : (PE (FX bl) el && PF (FX bl) bl) = true) : GI P X st (mk el bl) := by
 refine TK f el bl (PA he) (PL hb) ?_ ?_
 ·rw [N0, N9] at hi; exact hi
 ·rw [PG, Pr] at hs; exact hs
theorem Ln {dr : Bool} {Q : St → Prop} {r i : Nat} {st : St} {log : List (Nat × Di)} {gs : List (Operand × D)} {x y : Operand} {t s : Nat} {b : ByteArray} {k : IntKind} {n v : Int} (hat : At st.env ops i X.n (.index t x y) s gs)
  (hx : opd st.env x = some (vD (.string b))) (hy : opd st.env y = some (vD (.int k n))) (ht : N7 P t = true) (hv : Q0 b n = some v)
  (next : BA P X ops dr Q r (i + 1) (Di.upd ⟨gs ++ [(x, vD (.string b)), (y, vD (.int k n))], [], some s, some (vD (.int .u8 v)), [], []⟩ st) ((i, ⟨gs ++ [(x, vD (.string b)), (y, vD (.int k n))], [], some s, some (vD (.int .u8 v)), [], []⟩) :: log)) : BA P X ops dr Q (r + 1) i st log := by
 obtain ⟨c, h0, hc, e⟩ := QU (f := some) (r := v) (by rw [hv]; rfl)
 cases e
 exact RD hat hx hy ht h0 hc next
theorem Lt {t kt el : TypeId} (h1 : P.underlying t = some (.map kt el)) (h2 : P.underlying kt = some .string) : Sf P t Value.string where
 ty := ⟨kt, el, .string, h1, h2, fun _ _ => rfl, fun e n v w => by
  unfold Instr.checkKey
  refine Aq (AR h2 w) ?_
  rfl⟩
 same := fun a b h => by
  show (b == a) = true
  exact Ks a b h
end Go.Lift

/- The rules once more, with few words: what 'rfl' shows is one equation of tuples. No condition. -/
namespace Go.Lift
open Go.RowKit
variable {P : Program} {X : Js} {ops : Array Oper}
def hd (env : Nat → Option D) (ops : Array Oper) (i n : Nat) : Option (Op × Nat × List (Operand × D)) := match W3 ops i n with
 | some (op, s) => some (op, s, [])
 | none => match WP ops i n with
  | some (op, s, t, want) => (match env t, want with
   | some (.e (.one (.pure (.val (.bool true))))), true => some (op, s, [(.tmp t, bD true)])
   | some (.e (.one (.pure (.val (.bool false))))), false => some (op, s, [(.tmp t, bD false)])
   | _, _ => none)
  | none => none
theorem Dp {env : Nat → Option D} {n i s : Nat} {op : Op} {gs : List (Operand × D)} (h : hd env ops i n = some (op, s, gs)) : At env ops i n op s gs := by
 unfold hd at h
 split at h
 ·rename_i e; cases h; exact .p e
 ·split at h
  ·rename_i e
   split at h
   ·rename_i e2; cases h; exact .g e e2
   ·rename_i e2; cases h; exact .g e e2
   ·cases h
  ·cases h
theorem t2 {α β : Type} {a c : α} {b d : β} (h : (a, b) = (c, d)) : a = c ∧ b = d := Prod.mk.inj h
abbrev Nx (P : Program) (X : Js) (ops : Array Oper) (dr : Bool) (Q : St → Prop) (r i : Nat) (st : St) (log : List (Nat × Di)) (l : Di) : Prop := BA P X ops dr Q r (i + 1) (Di.upd l st) ((i, l) :: log)
theorem sj {α : Type} {a b : α} (h : some a = some b) : a = b := Option.some.inj h
def Sq (env : Nat → Option D) : List Operand → Option (List D)
 | [] => some []
 | x :: xs => match opd env x, Sq env xs with
  | some d, some ds => some (d :: ds)
  | _, _ => none
theorem OI {env : Nat → Option D} : ∀ {xs : List Operand} {ds : List D}, Sq env xs = some ds → xs.length = ds.length ∧ Gd env (IX xs ds)
 | [], ds, h => by cases h; exact ⟨rfl, trivial⟩
 | x :: xs, ds, h => by
  simp only [Sq] at h
  split at h
  ·rename_i e1 e2
   cases h
   have := OI e2
   exact ⟨by simp [this.1], e1, this.2⟩
  ·cases h
def Wd (bx : Nat → Option BO) : List Nat → Option (List (Nat × BO))
 | [] => some []
 | b :: bs => match bx b, Wd bx bs with
  | some k, some ks => some ((b, k) :: ks)
  | _, _ => none
theorem Sx {bx : Nat → Option BO} : ∀ {l : List Nat} {bs : List (Nat × BO)}, Wd bx l = some bs → HA bx bs
 | [], bs, h => by cases h; trivial
 | b :: l, bs, h => by
  simp only [Wd] at h
  split at h
  ·rename_i e1 e2
   cases h
   exact ⟨e1, Sx e2⟩
  ·cases h
def UW (env : Nat → Option D) : List (Nat × Operand) → Option (List (Nat × Operand × E))
 | [] => some []
 | p :: ps => match opd env p.2, UW env ps with
  | some (.e y), some qs => some ((p.1, p.2, y) :: qs)
  | _, _ => none
theorem QH {env : Nat → Option D} : ∀ {l : List (Nat × Operand)} {ps : List (Nat × Operand × E)}, UW env l = some ps → l = (ps.map fun p => (p.1, p.2.1)) ∧ Gd env (Ik ps)
 | [], ps, h => by cases h; exact ⟨rfl, trivial⟩
 | p :: l, ps, h => by
  simp only [UW] at h
  split at h
  ·rename_i e1 e2
   cases h
   have := QH e2
   exact ⟨by rw [List.map_cons, ← this.1], e1, this.2⟩
  ·cases h
theorem SH {env : Nat → Option D} {parts : Array (Nat × Operand)} {ps : List (Nat × Operand × E)} (h : UW env parts.toList = some ps) : parts = (ps.map fun p => (p.1, p.2.1)).toArray ∧ Gd env (Ik ps) := by
 have := QH h
 exact ⟨by rw [← this.1], this.2⟩
def S6 (k : Nat) : List (Nat × Operand × E) → Bool
 | [] => true
 | p :: ps => Nat.beq p.1 k && S6 (k + 1) ps
theorem QC : ∀ {k : Nat} {ps : List (Nat × Operand × E)}, S6 k ps = true → ps.map (·.1) = List.range' k ps.length
 | _, [], _ => rfl
 | k, p :: ps, h => by
  simp only [S6, Bool.and_eq_true] at h
  rw [List.map_cons, List.length_cons, List.range'_succ, QC h.2, Nat.eq_of_beq_eq_true h.1]
def WU : Option BO → Bool
 | none => true
 | some _ => false
theorem Oj {bx : Nat → Option BO} : ∀ {ns : List Nat}, (ns.all fun n => WU (bx n)) = true → MY bx ns
 | [], _ => trivial
 | n :: ns, h => by
  simp only [List.all_cons, Bool.and_eq_true] at h
  refine ⟨?_, Oj h.2⟩
  have := h.1
  cases hb : bx n with
  | none => rfl
  | some k => rw [hb] at this; cases this
theorem NN {ns : List Nat} (h : (IG ns && (ns.all fun n => !Ce n)) = true) : My ns := by
 rw [Bool.and_eq_true] at h
 exact ⟨Iw h.1, fun c hc => by simpa using List.all_eq_true.1 h.2 c hc⟩
def We (env : Nat → Option D) : List (Nat × D) → List (Option D)
 | [] => []
 | (s, _) :: ps => env s :: We env ps
def Wc (f : Nat → Nat) : List (Nat × D) → List (Option D)
 | [] => []
 | (_, d) :: ps => some (d.ren f) :: Wc f ps
def Wa (f : Nat → Nat) (bx : Nat → Option BO) : List (Nat × BO) → List (Option BO)
 | [] => []
 | (b, _) :: ps => bx (f b) :: Wa f bx ps
def Wg (f : Nat → Nat) : List (Nat × BO) → List (Option BO)
 | [] => []
 | (_, k) :: ps => some (k.ren f) :: Wg f ps
theorem SF {f : Nat → Nat} {env : Nat → Option D} : ∀ {el : List (Nat × D)}, We env el = Wc f el → QD f env el
 | [], _ => trivial
 | (s, d) :: el, h => by
  simp only [We, Wc] at h
  obtain ⟨h1, h2⟩ := List.cons.inj h
  exact ⟨h1, SF h2⟩
theorem SJ {f : Nat → Nat} {bx : Nat → Option BO} : ∀ {el : List (Nat × BO)}, Wa f bx el = Wg f el → QA f bx el
 | [], _ => trivial
 | (s, d) :: el, h => by
  simp only [Wa, Wg] at h
  obtain ⟨h1, h2⟩ := List.cons.inj h
  exact ⟨h1, SJ h2⟩
theorem sm {st : St} (l : List (Nat × Nat)) (el : List (Nat × D)) (bl : List (Nat × BO)) (h : (We st.env el, Wa (rn l) st.bx bl) = (Wc (rn l) el, Wg (rn l) bl)) (hi : ((IG ((FX bl).map (rn l)) && Mp (rn l) (FX bl)) && (PE (FX bl) el && PF (FX bl) bl)) = true) : GI P X st (mk el bl) :=
 Sr (rn l) el bl (SF (t2 h).1) (SJ (t2 h).2) (Bool.and_eq_true_iff.1 hi).1 (Bool.and_eq_true_iff.1 hi).2
section run
variable {dr : Bool} {Q : St → Prop} {r i : Nat} {st : St} {log : List (Nat × Di)} {gs : List (Operand × D)}
theorem qm {x : Operand} {d : D} {s : Nat} (h : (hd st.env ops i X.n, opd st.env x) = (some (.move x, s, gs), some d)) (next : Nx P X ops dr Q r i st log ⟨gs ++ [(x, d)], [], some s, some d, [], []⟩) : BA P X ops dr Q (r + 1) i st log :=
 Ug (Dp (t2 h).1) (t2 h).2 next
theorem qa {x : Operand} {d : D} {s : Nat} (h : (hd st.env ops i X.n, opd st.env x) = (some (.assign x, s, gs), some d)) (next : Nx P X ops dr Q r i st log ⟨gs ++ [(x, d)], [], some s, some d, [], []⟩) : BA P X ops dr Q (r + 1) i st log :=
 RH (Dp (t2 h).1) (t2 h).2 next
theorem qn {j t s : Nat} {want : Bool} (h : (UY ops i X.n, st.env t) = (some (j, s, t, want), some (bD (!want)))) (next : Nx P X ops dr Q r i st log ⟨[(.tmp t, bD (!want))], [], some s, some uD, [], []⟩) : BA P X ops dr Q (r + 1) i st log :=
 UC (t2 h).1 (t2 h).2 next
theorem qu {j t s : Nat} {want : Bool} (h : (UY ops i X.n, st.env t) = (some (j, s, t, want), some uD)) (next : Nx P X ops dr Q r i st log ⟨[(.tmp t, uD)], [], some s, some uD, [], []⟩) : BA P X ops dr Q (r + 1) i st log :=
 UN (t2 h).1 (t2 h).2 next
theorem qp {c x y : Operand} {b : Bool} {d : D} {z : Operand} {s : Nat} (h : (hd st.env ops i X.n, opd st.env c, (if b then x else y), opd st.env z) = (some (.pick c x y, s, gs), some (bD b), z, some d)) (next : Nx P X ops dr Q r i st log ⟨gs ++ [(c, bD b), (z, d)], [], some s, some d, [], []⟩) : BA P X ops dr Q (r + 1) i st log :=
 UJ (Dp (t2 h).1) (t2 (t2 h).2).1 (t2 (t2 (t2 h).2).2).1 (t2 (t2 (t2 h).2).2).2 next
theorem qf {x : Operand} {b k f off s : Nat} {t : TypeId} (hf : DA P t f off = true) (h : (hd st.env ops i X.n, opd st.env x) = (some (.fieldAddr t x f, s, gs), some (.e (.one (.ptr b k))))) (next : Nx P X ops dr Q r i st log ⟨gs ++ [(x, .e (.one (.ptr b k)))], [], some s, some (.e (.one (.ptr b (k + off)))), [], []⟩) : BA P X ops dr Q (r + 1) i st log :=
 O5 (Dp (t2 h).1) (t2 h).2 hf next
theorem qg {x : Operand} {ts us : List T} {f off s : Nat} {t : TypeId} (hf : DA P t f off = true) (h : (hd st.env ops i X.n, opd st.env x, Nat.ble (off) (ts.length), ts.drop off) = (some (.fieldAddr t x f, s, gs), some (.e (.one (.rop ts))), true, us)) (next : Nx P X ops dr Q r i st log ⟨gs ++ [(x, .e (.one (.rop ts)))], [], some s, some (.e (.one (.rop us))), [], []⟩) : BA P X ops dr Q (r + 1) i st log :=
 OH (Dp (t2 h).1) (t2 (t2 h).2).1 hf (Nat.le_of_ble_eq_true (t2 (t2 (t2 h).2).2).1) (t2 (t2 (t2 h).2).2).2 next
theorem ql {x : Operand} {b k s : Nat} {cells : List C} {c : C} {t : TypeId} (ht : E6 P t false = true) (h : (hd st.env ops i X.n, opd st.env x, st.bx b, cells[k]?) = (some (.load t x, s, gs), some (.e (.one (.ptr b k))), some (.box cells), some c)) (next : Nx P X ops dr Q r i st log ⟨gs ++ [(x, .e (.one (.ptr b k)))], [(b, .box cells)], some s, some (.e (.one c)), [], []⟩) : BA P X ops dr Q (r + 1) i st log :=
 TT (Dp (t2 h).1) (t2 (t2 h).2).1 ht (t2 (t2 (t2 h).2).2).1 (t2 (t2 (t2 h).2).2).2 next
theorem qL {x : Operand} {b k n s : Nat} {cells cs : List C} {t : TypeId} (ht : E6 P t true = true) (hz : HE P t n = true) (h : (hd st.env ops i X.n, opd st.env x, st.bx b, (cells.drop k).take n, cs.length) = (some (.load t x, s, gs), some (.e (.one (.ptr b k))), some (.box cells), cs, n)) (next : Nx P X ops dr Q r i st log ⟨gs ++ [(x, .e (.one (.ptr b k)))], [(b, .box cells)], some s, some (.e (.agg cs)), [], []⟩) : BA P X ops dr Q (r + 1) i st log :=
 TB (Dp (t2 h).1) (t2 (t2 h).2).1 ht hz (t2 (t2 (t2 h).2).2).1 (t2 (t2 (t2 (t2 h).2).2).2).1 (t2 (t2 (t2 (t2 h).2).2).2).2 next
theorem qk {x : Operand} {s : Nat} {ts : List T} {u : T} {t : TypeId} (ht : E6 P t false = true) (h : (hd st.env ops i X.n, opd st.env x, ts[0]?) = (some (.load t x, s, gs), some (.e (.one (.rop ts))), some u)) (next : Nx P X ops dr Q r i st log ⟨gs ++ [(x, .e (.one (.rop ts)))], [], some s, some (one u), [], []⟩) : BA P X ops dr Q (r + 1) i st log :=
 RY (Dp (t2 h).1) (t2 (t2 h).2).1 ht (t2 (t2 h).2).2 next
theorem qK {x : Operand} {s n : Nat} {ts us : List T} {t : TypeId} (ht : E6 P t true = true) (hz : HE P t n = true) (h : (hd st.env ops i X.n, opd st.env x, ts.take n, us.length) = (some (.load t x, s, gs), some (.e (.one (.rop ts))), us, n)) (next : Nx P X ops dr Q r i st log ⟨gs ++ [(x, .e (.one (.rop ts)))], [], some s, some (.e (.agg (us.map C.pure))), [], []⟩) : BA P X ops dr Q (r + 1) i st log :=
 Sd (Dp (t2 h).1) (t2 (t2 h).2).1 ht hz (t2 (t2 (t2 h).2).2).1 (t2 (t2 (t2 h).2).2).2 next
theorem qx {x : Operand} {xs : List E} {y : E} {k s : Nat} (h : (hd st.env ops i X.n, opd st.env x, xs[k]?) = (some (.extract x k, s, gs), some (.tup xs), some y)) (next : Nx P X ops dr Q r i st log ⟨gs ++ [(x, .tup xs)], [], some s, some (.e y), [], []⟩) : BA P X ops dr Q (r + 1) i st log :=
 QX (Dp (t2 h).1) (t2 (t2 h).2).1 (t2 (t2 h).2).2 next
theorem qb {x : Operand} {y : E} {s : Nat} {el : TypeId} (h : (hd st.env ops i X.n, opd st.env x, st.bx s) = (some (.box el x, s, gs), some (.e y), none)) (next : Nx P X ops dr Q r i st log ⟨gs ++ [(x, .e y)], [], some s, some (.e (.one (.ptr s 0))), [(s, .box y.cells)], [s]⟩) : BA P X ops dr Q (r + 1) i st log :=
 V0 (Dp (t2 h).1) (t2 (t2 h).2).1 (t2 (t2 h).2).2 next
theorem qz {z : Value} {zs : List Value} {s : Nat} {el : TypeId} (hz : EQ P el = some z) (h : (hd st.env ops i X.n, z.cells.toList, zs.all G8, st.bx s) = (some (.alloc el, s, gs), zs, true, none)) (next : Nx P X ops dr Q r i st log ⟨gs ++ [], [], some s, some (.e (.one (.ptr s 0))), [(s, .box (zs.map fun v => C.pure (T.of v)))], [s]⟩) : BA P X ops dr Q (r + 1) i st log :=
 TO (Dp (t2 h).1) hz (t2 (t2 h).2).1 (t2 (t2 (t2 h).2).2).1 (t2 (t2 (t2 h).2).2).2 next
theorem qs {x y : Operand} {b k n : Nat} {cells cells' : List C} {v : E} {t : TypeId} (hz : HE P t n = true) (h : (Pa ops i, opd st.env x, opd st.env y, st.bx b, v.cells.length, Nat.ble (k + n) (cells.length), IZ cells k v.cells) = (some (.store t x y), some (.e (.one (.ptr b k))), some (.e v), some (.box cells), n, true, cells')) (next : Nx P X ops dr Q r i st log ⟨[(x, .e (.one (.ptr b k))), (y, .e v)], [(b, .box cells)], none, none, [(b, .box cells')], []⟩) : BA P X ops dr Q (r + 1) i st log :=
 Ts (t2 h).1 (t2 (t2 h).2).1 (t2 (t2 (t2 h).2).2).1 (t2 (t2 (t2 (t2 h).2).2).2).1 hz (t2 (t2 (t2 (t2 (t2 h).2).2).2).2).1 (Nat.le_of_ble_eq_true (t2 (t2 (t2 (t2 (t2 (t2 h).2).2).2).2).2).1) (t2 (t2 (t2 (t2 (t2 (t2 h).2).2).2).2).2).2 next
theorem qi {x y : Operand} {s e : Nat} {rows : List (List T)} {row : List T} {t el : TypeId} {k : IntKind} {n : Int} (ht : sliceB P t el = true) (hz : HE P el e = true) (h0 : 0 ≤ n) (hrow : rows[n.toNat]? = some row) (h : (hd st.env ops i X.n, opd st.env x, opd st.env y, row.length) = (some (.indexAddr t x y, s, gs), some (one (.sl rows)), some (vD (.int k n)), e)) (next : Nx P X ops dr Q r i st log ⟨gs ++ [(x, one (.sl rows)), (y, vD (.int k n))], [], some s, some (.e (.one (.rop row))), [], []⟩) : BA P X ops dr Q (r + 1) i st log :=
 S4 (Dp (t2 h).1) (t2 (t2 h).2).1 (t2 (t2 (t2 h).2).2).1 ht hz h0 hrow (t2 (t2 (t2 h).2).2).2 next
theorem qI {x y : Operand} {s e b : Nat} {rows : List (List T)} {row : List T} {t el : TypeId} {k : IntKind} {n : Int} (ht : sliceB P t el = true) (hz : HE P el e = true) (h0 : 0 ≤ n) (hrow : rows[n.toNat]? = some row) (h : (hd st.env ops i X.n, opd st.env x, opd st.env y, st.bx b) = (some (.indexAddr t x y, s, gs), some (.e (.one (.own b))), some (vD (.int k n)), some (.vec e rows))) (next : Nx P X ops dr Q r i st log ⟨gs ++ [(x, .e (.one (.own b))), (y, vD (.int k n))], [(b, .vec e rows)], some s, some (.e (.one (.eptr b e n.toNat 0))), [], []⟩) : BA P X ops dr Q (r + 1) i st log :=
 Rn (Dp (t2 h).1) (t2 (t2 h).2).1 (t2 (t2 (t2 h).2).2).1 (t2 (t2 (t2 h).2).2).2 ht hz h0 hrow next
theorem qj {x : Operand} {b e ix k s : Nat} {rows : List (List T)} {row : List T} {u : T} {t : TypeId} (ht : E6 P t false = true) (hrow : rows[ix]? = some row) (h : (hd st.env ops i X.n, opd st.env x, st.bx b, row[k]?) = (some (.load t x, s, gs), some (.e (.one (.eptr b e ix k))), some (.vec e rows), some u)) (next : Nx P X ops dr Q r i st log ⟨gs ++ [(x, .e (.one (.eptr b e ix k)))], [(b, .vec e rows)], some s, some (one u), [], []⟩) : BA P X ops dr Q (r + 1) i st log :=
 R8 (Dp (t2 h).1) (t2 (t2 h).2).1 ht (t2 (t2 (t2 h).2).2).1 hrow (t2 (t2 (t2 h).2).2).2 next
theorem qJ {x : Operand} {b e ix s : Nat} {rows : List (List T)} {row : List T} {t : TypeId} (ht : E6 P t true = true) (hz : HE P t e = true) (hrow : rows[ix]? = some row) (h : (hd st.env ops i X.n, opd st.env x, st.bx b) = (some (.load t x, s, gs), some (.e (.one (.eptr b e ix 0))), some (.vec e rows))) (next : Nx P X ops dr Q r i st log ⟨gs ++ [(x, .e (.one (.eptr b e ix 0)))], [(b, .vec e rows)], some s, some (.e (.agg (row.map C.pure))), [], []⟩) : BA P X ops dr Q (r + 1) i st log :=
 K7 (Dp (t2 h).1) (t2 (t2 h).2).1 ht hz (t2 (t2 h).2).2 hrow next
theorem Nh {x : Operand} {s b k : Nat} (h : (hd st.env ops i X.n, opd st.env x) = (some (.nilCheck x, s, gs), some (.e (.one (.ptr b k))))) (next : Nx P X ops dr Q r i st log ⟨gs ++ [(x, .e (.one (.ptr b k)))], [], some s, some (.e (.one (.ptr b k))), [], []⟩) : BA P X ops dr Q (r + 1) i st log :=
 Qc (Dp (t2 h).1) (t2 h).2 next
theorem AY {k : IntKind} {xt yt : TypeId} {x y : Operand} {a b : Int} {s : Nat} (h : (hd st.env ops i X.n, opd st.env x, opd st.env y) = (some (.binOp .add xt x y yt, s, gs), some (vD (.int k a)), some (vD (.int k b)))) (next : Nx P X ops dr Q r i st log ⟨gs ++ [(x, vD (.int k a)), (y, vD (.int k b))], [], some s, some (vD (.int k (k.wrap (a + b)))), [], []⟩) : BA P X ops dr Q (r + 1) i st log :=
 Hk (Dp (t2 h).1) (t2 (t2 h).2).1 (t2 (t2 h).2).2 (Tc _ _ _ _ _ _) rfl next
theorem CQ {k : IntKind} {xt yt : TypeId} {x y : Operand} {a b : Int} {s : Nat} (h : (hd st.env ops i X.n, opd st.env x, opd st.env y) = (some (.binOp .sub xt x y yt, s, gs), some (vD (.int k a)), some (vD (.int k b)))) (next : Nx P X ops dr Q r i st log ⟨gs ++ [(x, vD (.int k a)), (y, vD (.int k b))], [], some s, some (vD (.int k (k.wrap (a - b)))), [], []⟩) : BA P X ops dr Q (r + 1) i st log :=
 Hk (Dp (t2 h).1) (t2 (t2 h).2).1 (t2 (t2 h).2).2 (TP _ _ _ _ _ _) rfl next
theorem Iu {k : IntKind} {xt yt : TypeId} {x y : Operand} {a b : Int} {s : Nat} (h : (hd st.env ops i X.n, opd st.env x, opd st.env y) = (some (.binOp .mul xt x y yt, s, gs), some (vD (.int k a)), some (vD (.int k b)))) (next : Nx P X ops dr Q r i st log ⟨gs ++ [(x, vD (.int k a)), (y, vD (.int k b))], [], some s, some (vD (.int k (k.wrap (a * b)))), [], []⟩) : BA P X ops dr Q (r + 1) i st log :=
 Hk (Dp (t2 h).1) (t2 (t2 h).2).1 (t2 (t2 h).2).2 (TR _ _ _ _ _ _) rfl next
theorem BK {k : IntKind} {xt yt : TypeId} {x y : Operand} {a b : Int} {s : Nat} (h : (hd st.env ops i X.n, opd st.env x, opd st.env y) = (some (.binOp .eql xt x y yt, s, gs), some (vD (.int k a)), some (vD (.int k b)))) (next : Nx P X ops dr Q r i st log ⟨gs ++ [(x, vD (.int k a)), (y, vD (.int k b))], [], some s, some (vD (.bool (a == b))), [], []⟩) : BA P X ops dr Q (r + 1) i st log :=
 Hk (Dp (t2 h).1) (t2 (t2 h).2).1 (t2 (t2 h).2).2 (TA _ _ _ _ _ _) rfl next
theorem Cw {k : IntKind} {xt yt : TypeId} {x y : Operand} {a b : Int} {s : Nat} (h : (hd st.env ops i X.n, opd st.env x, opd st.env y) = (some (.binOp .neq xt x y yt, s, gs), some (vD (.int k a)), some (vD (.int k b)))) (next : Nx P X ops dr Q r i st log ⟨gs ++ [(x, vD (.int k a)), (y, vD (.int k b))], [], some s, some (vD (.bool (a != b))), [], []⟩) : BA P X ops dr Q (r + 1) i st log :=
 Hk (Dp (t2 h).1) (t2 (t2 h).2).1 (t2 (t2 h).2).2 (Th _ _ _ _ _ _) rfl next
theorem A2 {k : IntKind} {xt yt : TypeId} {x y : Operand} {a b : Int} {s : Nat} (h : (hd st.env ops i X.n, opd st.env x, opd st.env y) = (some (.binOp .lss xt x y yt, s, gs), some (vD (.int k a)), some (vD (.int k b)))) (next : Nx P X ops dr Q r i st log ⟨gs ++ [(x, vD (.int k a)), (y, vD (.int k b))], [], some s, some (vD (.bool (decide (a < b)))), [], []⟩) : BA P X ops dr Q (r + 1) i st log :=
 Hk (Dp (t2 h).1) (t2 (t2 h).2).1 (t2 (t2 h).2).2 (S9 _ _ _ _ _ _) rfl next
theorem Kg {k : IntKind} {xt yt : TypeId} {x y : Operand} {a b : Int} {s : Nat} (h : (hd st.env ops i X.n, opd st.env x, opd st.env y) = (some (.binOp .leq xt x y yt, s, gs), some (vD (.int k a)), some (vD (.int k b)))) (next : Nx P X ops dr Q r i st log ⟨gs ++ [(x, vD (.int k a)), (y, vD (.int k b))], [], some s, some (vD (.bool (decide (a ≤ b)))), [], []⟩) : BA P X ops dr Q (r + 1) i st log :=
 Hk (Dp (t2 h).1) (t2 (t2 h).2).1 (t2 (t2 h).2).2 (Td _ _ _ _ _ _) rfl next
theorem Fw {k : IntKind} {xt yt : TypeId} {x y : Operand} {a b : Int} {s : Nat} (h : (hd st.env ops i X.n, opd st.env x, opd st.env y) = (some (.binOp .gtr xt x y yt, s, gs), some (vD (.int k a)), some (vD (.int k b)))) (next : Nx P X ops dr Q r i st log ⟨gs ++ [(x, vD (.int k a)), (y, vD (.int k b))], [], some s, some (vD (.bool (decide (b < a)))), [], []⟩) : BA P X ops dr Q (r + 1) i st log :=
 Hk (Dp (t2 h).1) (t2 (t2 h).2).1 (t2 (t2 h).2).2 (Ta _ _ _ _ _ _) rfl next
theorem Dx {k : IntKind} {xt yt : TypeId} {x y : Operand} {a b : Int} {s : Nat} (h : (hd st.env ops i X.n, opd st.env x, opd st.env y) = (some (.binOp .geq xt x y yt, s, gs), some (vD (.int k a)), some (vD (.int k b)))) (next : Nx P X ops dr Q r i st log ⟨gs ++ [(x, vD (.int k a)), (y, vD (.int k b))], [], some s, some (vD (.bool (decide (b ≤ a)))), [], []⟩) : BA P X ops dr Q (r + 1) i st log :=
 Hk (Dp (t2 h).1) (t2 (t2 h).2).1 (t2 (t2 h).2).2 (SY _ _ _ _ _ _) rfl next
theorem KE {k : IntKind} {xt yt : TypeId} {x y : Operand} {a b : Int} {s : Nat} (h : (hd st.env ops i X.n, opd st.env x, opd st.env y) = (some (.binOp .and xt x y yt, s, gs), some (vD (.int k a)), some (vD (.int k b)))) (next : Nx P X ops dr Q r i st log ⟨gs ++ [(x, vD (.int k a)), (y, vD (.int k b))], [], some s, some (vD (.int k (FI k a b))), [], []⟩) : BA P X ops dr Q (r + 1) i st log :=
 Hk (Dp (t2 h).1) (t2 (t2 h).2).1 (t2 (t2 h).2).2 (SU _ _ _ _ _ _) rfl next
theorem SE {k : IntKind} {xt yt : TypeId} {x y : Operand} {a b : Int} {s : Nat} (h : (hd st.env ops i X.n, opd st.env x, opd st.env y) = (some (.binOp .or xt x y yt, s, gs), some (vD (.int k a)), some (vD (.int k b)))) (next : Nx P X ops dr Q r i st log ⟨gs ++ [(x, vD (.int k a)), (y, vD (.int k b))], [], some s, some (vD (.int k (Nf k a b))), [], []⟩) : BA P X ops dr Q (r + 1) i st log :=
 Hk (Dp (t2 h).1) (t2 (t2 h).2).1 (t2 (t2 h).2).2 (UM _ _ _ _ _ _) rfl next
theorem Id {k : IntKind} {xt yt : TypeId} {x y : Operand} {a b : Int} {s : Nat} (h : (hd st.env ops i X.n, opd st.env x, opd st.env y) = (some (.binOp .andNot xt x y yt, s, gs), some (vD (.int k a)), some (vD (.int k b)))) (next : Nx P X ops dr Q r i st log ⟨gs ++ [(x, vD (.int k a)), (y, vD (.int k b))], [], some s, some (vD (.int k (Df k a b))), [], []⟩) : BA P X ops dr Q (r + 1) i st log :=
 Hk (Dp (t2 h).1) (t2 (t2 h).2).1 (t2 (t2 h).2).2 (Qf _ _ _ _ _ _) rfl next
theorem RN {k : IntKind} {xt yt : TypeId} {x y : Operand} {a b : Int} {s : Nat} (h : (hd st.env ops i X.n, opd st.env x, opd st.env y) = (some (.binOp .xor xt x y yt, s, gs), some (vD (.int k a)), some (vD (.int k b)))) (next : Nx P X ops dr Q r i st log ⟨gs ++ [(x, vD (.int k a)), (y, vD (.int k b))], [], some s, some (vD (.int k (GM k a b))), [], []⟩) : BA P X ops dr Q (r + 1) i st log :=
 Hk (Dp (t2 h).1) (t2 (t2 h).2).1 (t2 (t2 h).2).2 (Tf _ _ _ _ _ _) rfl next
theorem HF {k k' : IntKind} {xt yt : TypeId} {x y : Operand} {a b : Int} {s : Nat} (h : (hd st.env ops i X.n, opd st.env x, opd st.env y) = (some (.binOp .shl xt x y yt, s, gs), some (vD (.int k a)), some (vD (.int k' b)))) (hc : 0 ≤ b) (next : Nx P X ops dr Q r i st log ⟨gs ++ [(x, vD (.int k a)), (y, vD (.int k' b))], [], some s, some (vD (.int k (CJ k a b))), [], []⟩) : BA P X ops dr Q (r + 1) i st log :=
 Hk (Dp (t2 h).1) (t2 (t2 h).2).1 (t2 (t2 h).2).2 (Tq _ _ _ _ _ _ _ hc) rfl next
theorem GX {k k' : IntKind} {xt yt : TypeId} {x y : Operand} {a b : Int} {s : Nat} (h : (hd st.env ops i X.n, opd st.env x, opd st.env y) = (some (.binOp .shr xt x y yt, s, gs), some (vD (.int k a)), some (vD (.int k' b)))) (hc : 0 ≤ b) (next : Nx P X ops dr Q r i st log ⟨gs ++ [(x, vD (.int k a)), (y, vD (.int k' b))], [], some s, some (vD (.int k (En k a b))), [], []⟩) : BA P X ops dr Q (r + 1) i st log :=
 Hk (Dp (t2 h).1) (t2 (t2 h).2).1 (t2 (t2 h).2).2 (SR _ _ _ _ _ _ _ hc) rfl next
theorem JN {k : IntKind} {xt yt : TypeId} {x y : Operand} {a b : Int} {s : Nat} (h : (hd st.env ops i X.n, opd st.env x, opd st.env y) = (some (.binOp .rem xt x y yt, s, gs), some (vD (.int k a)), some (vD (.int k b)))) (hc : b ≠ 0) (next : Nx P X ops dr Q r i st log ⟨gs ++ [(x, vD (.int k a)), (y, vD (.int k b))], [], some s, some (vD (.int k (a.tmod b))), [], []⟩) : BA P X ops dr Q (r + 1) i st log :=
 Hk (Dp (t2 h).1) (t2 (t2 h).2).1 (t2 (t2 h).2).2 (Tx _ _ _ _ _ _ hc) rfl next
theorem MR {k : IntKind} {xt yt : TypeId} {x y : Operand} {a b : Int} {s : Nat} (h : (hd st.env ops i X.n, opd st.env x, opd st.env y) = (some (.binOp .quo xt x y yt, s, gs), some (vD (.int k a)), some (vD (.int k b)))) (hc : b ≠ 0) (next : Nx P X ops dr Q r i st log ⟨gs ++ [(x, vD (.int k a)), (y, vD (.int k b))], [], some s, some (vD (.int k (k.wrap (a.tdiv b)))), [], []⟩) : BA P X ops dr Q (r + 1) i st log :=
 Hk (Dp (t2 h).1) (t2 (t2 h).2).1 (t2 (t2 h).2).2 (TD _ _ _ _ _ _ hc) rfl next
theorem Cp {xt : TypeId} {x : Operand} {b : Bool} {s : Nat} (h : (hd st.env ops i X.n, opd st.env x) = (some (.unOp .not xt x, s, gs), some (bD b))) (next : Nx P X ops dr Q r i st log ⟨gs ++ [(x, bD b)], [], some s, some (vD (.bool (!b))), [], []⟩) : BA P X ops dr Q (r + 1) i st log :=
 WN (Dp (t2 h).1) (t2 h).2 (Uw _) rfl next
theorem GT {xt yt : TypeId} {k k' : IntKind} {x : Operand} {a : Int} {s : Nat} (hs : (P.underlying xt).isSome = true) (ht : MT P yt k = true) (h : (hd st.env ops i X.n, opd st.env x) = (some (.convert xt yt x, s, gs), some (vD (.int k' a)))) (next : Nx P X ops dr Q r i st log ⟨gs ++ [(x, vD (.int k' a))], [], some s, some (vD (.int k (k.wrap a))), [], []⟩) : BA P X ops dr Q (r + 1) i st log :=
 Ut (Dp (t2 h).1) (t2 h).2 (SD hs ht _ _) rfl next
theorem AZ {α : Type} {f : α → List T} {xs : List α} {x : Operand} {s : Nat} {t el : TypeId} (ht : sliceB P t el = true) (h : (hd st.env ops i X.n, opd st.env x) = (some (.call ⟨.builtin .len, #[x], #[t]⟩, s, gs), some (one (.sl (xs.map f))))) (next : Nx P X ops dr Q r i st log ⟨gs ++ [(x, one (.sl (xs.map f)))], [], some s, some (vD (.int .i64 (xs.length : Int))), [], []⟩) : BA P X ops dr Q (r + 1) i st log :=
 T6 (Dp (t2 h).1) (t2 h).2 (.sl _) trivial (List.length_map _) ht next
theorem DU {α : Type} {f : α → List T} {xs : List α} {x : Operand} {s b e : Nat} {t el : TypeId} (ht : sliceB P t el = true) (h : (hd st.env ops i X.n, opd st.env x, st.bx b) = (some (.call ⟨.builtin .len, #[x], #[t]⟩, s, gs), some (.e (.one (.own b))), some (.vec e (xs.map f)))) (next : Nx P X ops dr Q r i st log ⟨gs ++ [(x, .e (.one (.own b)))], [(b, .vec e (xs.map f))], some s, some (vD (.int .i64 (xs.length : Int))), [], []⟩) : BA P X ops dr Q (r + 1) i st log :=
 T6 (Dp (t2 h).1) (t2 (t2 h).2).1 (.own _ _ _) ⟨(t2 (t2 h).2).2, trivial⟩ (List.length_map _) ht next
theorem BM {t : TypeId} {s : Nat} {z : Value} {zs : List Value} {pl : List (Nat × Nat)} {cells : List C} {parts : Array (Nat × Operand)} {ps : List (Nat × Operand × E)} (hz : EQ P t = some z) (hpl : Ix P t = some pl) (h : (hd st.env ops i X.n, UW st.env parts.toList, z.cells.toList, zs.all G8, KZ (pl[·]?) (zs.map fun v => C.pure (T.of v)) (ps.map fun p => (p.1, p.2.2))) = (some (.build t parts, s, gs), some ps, zs, true, some cells)) (next : Nx P X ops dr Q r i st log ⟨gs ++ Ik ps, [], some s, some (.e (.agg cells)), [], []⟩) : BA P X ops dr Q (r + 1) i st log :=
 have q := SH (t2 (t2 h).2).1
 Tu ps (Dp (t2 h).1) (by rw [← q.1]) q.2 hz (t2 (t2 (t2 h).2).2).1 (t2 (t2 (t2 (t2 h).2).2).2).1 hpl (t2 (t2 (t2 (t2 h).2).2).2).2 next
theorem Ep {t el : TypeId} {s n e : Nat} {z : Value} {rows : List (List T)} {parts : Array (Nat × Operand)} {ps : List (Nat × Operand × E)} (ht : sliceB P t el = true) (he : HE P el e = true) (hz : EQ P el = some z) (h : (hd st.env ops i X.n, UW st.env parts.toList, st.bx s, S6 0 ps, ps.length, Nat.ble (n * e) 16777216, (ps.map fun p => (p.1, p.2.2)).mapM (fun p => p.2.ts), rows.all (fun row => row.length == e)) = (some (.buildSlice t n parts, s, gs), some ps, none, true, n, true, some rows, true)) (next : Nx P X ops dr Q r i st log ⟨gs ++ Ik ps, [], some s, some (.e (.one (.own s))), [(s, .vec e rows)], [s]⟩) : BA P X ops dr Q (r + 1) i st log :=
 have q := SH (t2 (t2 h).2).1
 have g := (t2 (t2 (t2 h).2).2).2
 Oq ps (Dp (t2 h).1) (by rw [← q.1]) q.2 (t2 (t2 (t2 h).2).2).1 ht he hz (QC (t2 g).1) (t2 (t2 g).2).1 (Nat.le_of_ble_eq_true (t2 (t2 (t2 g).2).2).1) (t2 (t2 (t2 (t2 g).2).2).2).1 (t2 (t2 (t2 (t2 g).2).2).2).2 next
theorem AH {f s : Nat} {xs : List Operand} {ds0 ds : List D} {rv : List (Nat × List (List T))} {res : D} {ts : Array TypeId} (ns : List Nat) (hc : AC P f ds rv res) (hf : AL P f = true) (h : (hd st.env ops i X.n, Sq st.env xs, ds0.map D.nrm, ds.all Ry, ns.length, IG ns && (ns.all fun n => !Ce n), ns.all (fun n => WU (st.bx n)), res.names.all (fun b => decide (b < rv.length))) = (some (.call ⟨.value (.func f), xs.toArray, ts⟩, s, gs), some ds0, ds, true, rv.length, true, true, true)) (next : Nx P X ops dr Q r i st log ⟨gs ++ IX xs ds0, [], some s, some (res.ren (nm ns)), Jw ns rv, ns⟩) : BA P X ops dr Q (r + 1) i st log :=
 have q := OI (t2 (t2 h).2).1
 have g := (t2 (t2 (t2 h).2).2).2
 Ue ns hc (Dp (t2 h).1) hf q.1 q.2 (t2 (t2 (t2 h).2).2).1 (t2 g).1 (t2 (t2 g).2).1 (NN (t2 (t2 (t2 g).2).2).1) (Oj (t2 (t2 (t2 (t2 g).2).2).2).1) (t2 (t2 (t2 (t2 g).2).2).2).2 next
theorem EF {f s : Nat} {xs : List Operand} {ds0 ds : List D} {rv : List (Nat × List (List T))} {res : D} {ts : Array TypeId} {bs : List (Nat × BO)} (ns lb : List Nat) (hc : AC P f ds rv res) (hf : AL P f = true) (hfv : O0 rv) (h : (hd st.env ops i X.n, Sq st.env xs, Wd st.bx lb, ds0.map (fun d => (d.lend bs).nrm), ds.all Ry, ns.length, IG ns && (ns.all fun n => !Ce n), ns.all (fun n => WU (st.bx n)), res.flat, res.names.all (fun b => decide (b < rv.length))) = (some (.call ⟨.value (.func f), xs.toArray, ts⟩, s, gs), some ds0, some bs, ds, true, rv.length, true, true, true, true)) (next : Nx P X ops dr Q r i st log ⟨gs ++ IX xs ds0, bs, some s, some (res.ren (nm ns)), Jw ns rv, ns⟩) : BA P X ops dr Q (r + 1) i st log :=
 have q := OI (t2 (t2 h).2).1
 have g := (t2 (t2 (t2 h).2).2).2
 have g2 := (t2 (t2 (t2 g).2).2).2
 TN ns bs hc (Dp (t2 h).1) hf q.1 q.2 (Sx (t2 (t2 (t2 h).2).2).1) (t2 g).1 (t2 (t2 g).2).1 (t2 (t2 (t2 g).2).2).1 (NN (t2 g2).1) (Oj (t2 (t2 g2).2).1) (t2 (t2 (t2 g2).2).2).1 hfv (t2 (t2 (t2 g2).2).2).2 next
theorem Dw {α : Type} {f : α → List T} {xs : List α} {ys : List α} {x y : Operand} {t t2' el el2 s e bytes b b2 : Nat} {z : Value} (ht : sliceB P t el = true) (ht2 : sliceB P t2' el2 = true) (he : HE P el e = true) (hby : FV P el bytes = true) (hz : EQ P el = some z) (hlim : xs.length + ys.length ≤ D3) (h : (hd st.env ops i X.n, opd st.env x, st.bx b, opd st.env y, st.bx b2, st.bx s, z.cells.size, Nat.ble bytes 4096, [b].all (fun b => !Ce b)) = (some (.call ⟨.builtin .append, #[x, y], #[t, t2']⟩, s, gs), some (.e (.one (.own b))), some (.vec e (xs.map f)), some (.e (.one (.own b2))), some (.vec e (ys.map f)), none, e, true, true)) (next : Nx P X ops dr Q r i st log ⟨gs ++ [(x, .e (.one (.own b))), (y, .e (.one (.own b2)))], [(b, .vec e (xs.map f))] ++ [(b2, .vec e (ys.map f))], some s, some (.e (.one (.own s))), (s, .vec e ((xs ++ ys).map f)) :: JG [b], [s]⟩) : BA P X ops dr Q (r + 1) i st log :=
 OZ (Dp (t2 h).1) (t2 (t2 h).2).1 (.own _ _ _) ⟨(t2 (t2 (t2 h).2).2).1, trivial⟩ (t2 (t2 (t2 (t2 h).2).2).2).1 (.own _ _ _) ⟨(t2 (t2 (t2 (t2 (t2 h).2).2).2).2).1, trivial⟩ (t2 (t2 (t2 (t2 (t2 (t2 h).2).2).2).2).2).1 ht ht2 he hby (Nat.le_of_ble_eq_true (t2 (t2 (t2 (t2 (t2 (t2 (t2 (t2 h).2).2).2).2).2).2).2).1) hz (t2 (t2 (t2 (t2 (t2 (t2 (t2 h).2).2).2).2).2).2).1 (by simpa using hlim) (by simp) (t2 (t2 (t2 (t2 (t2 (t2 (t2 (t2 h).2).2).2).2).2).2).2).2 next
theorem Jf {α : Type} {f : α → List T} {xs : List α} {ys : List α} {x y : Operand} {t t2' el el2 s e bytes b : Nat} {z : Value} (ht : sliceB P t el = true) (ht2 : sliceB P t2' el2 = true) (he : HE P el e = true) (hby : FV P el bytes = true) (hz : EQ P el = some z) (hf : ∀ x, (f x).length = e) (hlim : xs.length + ys.length ≤ D3) (h : (hd st.env ops i X.n, opd st.env x, st.bx b, opd st.env y, st.bx s, z.cells.size, Nat.ble bytes 4096, [b].all (fun b => !Ce b)) = (some (.call ⟨.builtin .append, #[x, y], #[t, t2']⟩, s, gs), some (.e (.one (.own b))), some (.vec e (xs.map f)), some (one (.sl (ys.map f))), none, e, true, true)) (next : Nx P X ops dr Q r i st log ⟨gs ++ [(x, .e (.one (.own b))), (y, one (.sl (ys.map f)))], [(b, .vec e (xs.map f))] ++ [], some s, some (.e (.one (.own s))), (s, .vec e ((xs ++ ys).map f)) :: JG [b], [s]⟩) : BA P X ops dr Q (r + 1) i st log :=
 OZ (Dp (t2 h).1) (t2 (t2 h).2).1 (.own _ _ _) ⟨(t2 (t2 (t2 h).2).2).1, trivial⟩ (t2 (t2 (t2 (t2 h).2).2).2).1 (.sl _ _ (Pd hf _)) trivial (t2 (t2 (t2 (t2 (t2 h).2).2).2).2).1 ht ht2 he hby (Nat.le_of_ble_eq_true (t2 (t2 (t2 (t2 (t2 (t2 (t2 h).2).2).2).2).2).2).1) hz (t2 (t2 (t2 (t2 (t2 (t2 h).2).2).2).2).2).1 (by simpa using hlim) (by simp) (t2 (t2 (t2 (t2 (t2 (t2 (t2 h).2).2).2).2).2).2).2 next
end run
end Go.Lift

/- A function that is named where a closure is wanted, in calls that lend. No condition. -/
namespace Go.Lift
open Go.RowKit
variable {P : Program}
def Vv (P : Program) : List D → List D → Prop
 | [], [] => True
 | a :: ar, b :: bs => (∀ (w : World) (G : Gh) (v : Value), Hc P w G v a → Hc P w G v b) ∧ Vv P ar bs
 | _, _ => False
theorem Vv.get : ∀ {ar bs : List D}, Vv P ar bs → ar.length = bs.length ∧ ∀ (j : Nat) (b : D), bs[j]? = some b → ∃ a, ar[j]? = some a ∧ ∀ (w : World) (G : Gh) (v : Value), Hc P w G v a → Hc P w G v b
 | [], [], _ => ⟨rfl, fun j b h => by simp at h⟩
 | a :: ar, b :: bs, h => by
  obtain ⟨h1, h2⟩ := Vv.get h.2
  refine ⟨by simp [h1], fun j c hj => ?_⟩
  cases j with
  | zero => simp at hj; subst hj; exact ⟨a, rfl, h.1⟩
  | succ j => obtain ⟨a', g1, g2⟩ := h2 j c (by simpa using hj); exact ⟨a', by simpa using g1, g2⟩
theorem BI.weak {f : FuncId} {ds ds' : List D} {lent : List (BO × BO)} {rv : List BO} {res : D} (h : BI P f ds lent rv res) (hp : Vv P ds' ds) : BI P f ds' lent rv res := by
 intro w G vs h1 h2 h3 h4 hlen hargs
 obtain ⟨g1, g2⟩ := hp.get
 refine h w G vs h1 h2 h3 h4 (by rw [hlen, g1]) fun j d hj => ?_
 obtain ⟨a, e1, e2⟩ := g2 j d hj
 exact e2 w G _ (hargs j a e1)
theorem MI {f : FuncId} {g : List (Bool × List T) → Option T} (hf : AL P f = true) (hclo : ∀ ar t, g ar = some t → AC P f (ar.map OE) [] (one t)) {w : World} {G : Gh} {v : Value} (h : Hc P w G v (.e (.one (.fnc f)))) : Hc P w G v (.e (.one (.clo g))) :=
 Tl (S := G.S) hf hclo h
end Go.Lift

/- A place of a part of an own slice, at typed lists. No condition. -/
namespace Go.Lift
open Go.RowKit
variable {P : Program} {X : Js} {ops : Array Oper}
theorem I3 {α : Type} {xs : List α} {lo len i : Nat} {x : α} (h : ((xs.drop lo).take len)[i]? = some x) : i < len ∧ xs[lo + i]? = some x := by
 rw [List.getElem?_take] at h
 split at h
 ·rename_i h1; rw [List.getElem?_drop] at h; exact ⟨h1, h⟩
 ·cases h
section run
variable {dr : Bool} {Q : St → Prop} {r i : Nat} {st : St} {log : List (Nat × Di)} {gs : List (Operand × D)}
theorem Lv {α : Type} (f : α → List T) (xs : List α) {x y : Operand} {s e b lo len q : Nat} {t el : TypeId} {k : IntKind} {n : Int} (hat : At st.env ops i X.n (.indexAddr t x y) s gs)
  (hx : opd st.env x = some (.e (.one (.view b e lo len)))) (hle : lo + len ≤ xs.length) (hy : opd st.env y = some (vD (.int k n))) (hb : st.bx b = some (.vec e (xs.map f))) (ht : sliceB P t el = true) (hz : HE P el e = true) (h0 : 0 ≤ n) (hn1 : n.toNat < len) (hq : lo + n.toNat = q)
  (next : Nx P X ops dr Q r i st log ⟨gs ++ [(x, .e (.one (.view b e lo len))), (y, vD (.int k n))], [(b, .vec e (xs.map f))], some s, some (.e (.one (.eptr b e q 0))), [], []⟩) : BA P X ops dr Q (r + 1) i st log := by
 subst hq
 exact Su (row := []) hat hx (by simpa using hle) hy hb ht hz h0 hn1 next
end run
end Go.Lift

/- The types of the shallow programs, and how a value of each lies in cells. Written by a program (gen.py). -/
namespace Go.Lift
def Ai (n : Int) : List T := [.val (.int .i64 n)]
def Bb (n : Int) : List T := [.val (.int .u8 n)]
def WA (n : Int) : List T := [.val (.int .u16 n)]
abbrev CR (n : Int) : T := .val (.int .i64 n)
abbrev tB (b : Bool) : T := .val (.bool b)
def eB (b : Bool) : List T := [.val (.bool b)]
def ER {α : Type} (f : α → List T) (xs : List α) : List T := [.sl (xs.map f)]
theorem Sy : SO Ai := ⟨by intro x y h; simpa [Ai] using h⟩
theorem VS : SO Bb := ⟨by intro x y h; simpa [Bb] using h⟩
theorem WI : SO eB := ⟨by intro x y h; simpa [eB] using h⟩
theorem VW {α : Type} {f : α → List T} (h : SO f) : SO (ER f) := ⟨by intro x y hx; simp only [ER, List.cons.injEq, T.sl.injEq, and_true] at hx; exact K2 h.inj _ _ hx⟩
structure HM where
 fKind : Int
 fFrom : Int
 fTo : Int
 fAware : Bool
 fBad : Int
 fLost : Int
def Cf (x : HM) : List T := [.val (.int .u8 x.fKind), .val (.int .u8 x.fFrom), .val (.int .u8 x.fTo), .val (.bool x.fAware), .val (.int .u16 x.fBad), .val (.int .u16 x.fLost)]
structure CI where
 fVersions : List Int
 fNow : List Int
 fTarget : List Int
 fLinks : List HM
def Lc (x : CI) : List T := [.sl (x.fVersions.map Bb), .sl (x.fNow.map Bb), .sl (x.fTarget.map Bb), .sl (x.fLinks.map Cf)]
structure AF where
 fKind : Int
 fFrom : Int
 fTo : Int
 fAware : Bool
 fOK : List (List Bool)
 fRewrite : List (List Bool)
def Ao (x : AF) : List T := [.val (.int .i64 x.fKind), .val (.int .i64 x.fFrom), .val (.int .i64 x.fTo), .val (.bool x.fAware), .sl (x.fOK.map (ER eB)), .sl (x.fRewrite.map (ER eB))]
structure Ag where
 fVersions : List Int
 fNow : List Int
 fTarget : List Int
 fTables : List AF
structure Ae where
 fBase : List Int
 fNext : List Int
 fHeld : List Int
def Af (x : Ae) : List T := [.sl (x.fBase.map Ai), .sl (x.fNext.map Ai), .sl (x.fHeld.map Bb)]
theorem Br : SO Af := ⟨by
 rintro ⟨a1, a2, a3⟩ ⟨b1, b2, b3⟩ h
 simp only [Af, List.cons.injEq, T.sl.injEq, and_true] at h
 obtain ⟨h1, h2, h3⟩ := h
 have h1 := K2 Sy.inj _ _ h1
 subst h1
 have h2 := K2 Sy.inj _ _ h2
 subst h2
 have h3 := K2 VS.inj _ _ h3
 subst h3
 rfl⟩
structure Av where
 fTable : Int
 fWriter : Int
 fReader : Int
def A3 (x : Av) : List T := [.val (.int .i64 x.fTable), .val (.int .i64 x.fWriter), .val (.int .i64 x.fReader)]
structure Ak where
 fKind : Int
 fIndex : Int
 fVersion : Int
def AD (x : Ak) : List T := [.val (.int .i64 x.fKind), .val (.int .i64 x.fIndex), .val (.int .i64 x.fVersion)]
theorem M9 : SO AD := ⟨by
 rintro ⟨a1, a2, a3⟩ ⟨b1, b2, b3⟩ h
 simp only [AD, List.cons.injEq, T.val.injEq, Value.int.injEq, and_true, true_and] at h
 obtain ⟨h1, h2, h3⟩ := h
 subst h1
 subst h2
 subst h3
 rfl⟩
end Go.Lift

/- The shallow programs. Written by a program (gen.py) out of the code. -/
namespace Go.Lift
def DW (_ : Nat) (p0 : List Int) (p1 : Int) : Option Int :=
 AW ((decide (p1 < (p0.length : Int))))
  ((A9 p0 p1).bind fun v2 =>
  some ((IntKind.wrap .i64 v2)))
  (some 0)
def A6 (_ : Nat) (p0 : AF) : Option Bool :=
 Ba (fun (v1 : Bool) =>
  some v1)
 fun j1 =>
 AW ((p0.fKind == 3))
  (j1 true)
  (j1 (p0.fKind == 4))
def Cj (N : Nat) (p1 : Int) (p2 : Int) (p3 : Bool) (v1 : (List (List Bool)) × Int) (j4 : ((List Bool)) → Option ((List (List Bool)))) : Nat → ((List Bool) × Int) → Option ((List (List Bool)))
 | 0, _ => none
 | n4 + 1, v4 =>
  AW ((decide (v4.2 < p1)))
   (Ba (fun (v7 : (List Bool)) =>
    Cj N p1 p2 p3 v1 j4 n4 (v7, (IntKind.wrap .i64 (v4.2 + 1))))
   fun j7 =>
   AW p3
    (AW ((v1.2 == v4.2))
     ((Ef (v4.1.length + (([true] : List Bool)).length ≤ D3)).bind fun _ =>
     j7 (v4.1 ++ (([true] : List Bool))))
     ((Ef (0 ≤ (IntKind.wrap .i64 ((IntKind.wrap .i64 (3 * v1.2)) + v4.2)))).bind fun _ =>
     (Ef (v4.1.length + (([((Int.tmod ((En .u16 p2 ((IntKind.wrap .i64 ((IntKind.wrap .i64 (3 * v1.2)) + v4.2))))) 2) == 0)] : List Bool)).length ≤ D3)).bind fun _ =>
     j7 (v4.1 ++ (([((Int.tmod ((En .u16 p2 ((IntKind.wrap .i64 ((IntKind.wrap .i64 (3 * v1.2)) + v4.2))))) 2) == 0)] : List Bool)))))
    ((Ef (0 ≤ (IntKind.wrap .i64 ((IntKind.wrap .i64 (3 * v1.2)) + v4.2)))).bind fun _ =>
    (Ef (v4.1.length + (([((Int.tmod ((En .u16 p2 ((IntKind.wrap .i64 ((IntKind.wrap .i64 (3 * v1.2)) + v4.2))))) 2) == 0)] : List Bool)).length ≤ D3)).bind fun _ =>
    j7 (v4.1 ++ (([((Int.tmod ((En .u16 p2 ((IntKind.wrap .i64 ((IntKind.wrap .i64 (3 * v1.2)) + v4.2))))) 2) == 0)] : List Bool)))))
   (j4 v4.1)
def Co (N : Nat) (p0 : Int) (p1 : Int) (p2 : Int) (p3 : Bool) (j1 : ((List (List Bool))) → Option ((List (List Bool)))) : Nat → ((List (List Bool)) × Int) → Option ((List (List Bool)))
 | 0, _ => none
 | n1 + 1, v1 =>
  AW ((decide (v1.2 < p0)))
   (Cj N p1 p2 p3 v1 (fun (v5 : (List Bool)) =>
    (Ef (v1.1.length + (([v5] : List (List Bool))).length ≤ D3)).bind fun _ =>
    Co N p0 p1 p2 p3 j1 n1 (v1.1 ++ (([v5] : List (List Bool))), (IntKind.wrap .i64 (v1.2 + 1)))) N (([] : List Bool), 0))
   (j1 v1.1)
def DX (N : Nat) (p0 : Int) (p1 : Int) (p2 : Int) (p3 : Bool) : Option ((List (List Bool))) :=
 Co N p0 p1 p2 p3 (fun (v2 : (List (List Bool))) =>
  some v2) N (([] : List (List Bool)), 0)
def CK (N : Nat) (p0 : CI) (j4 : ((List Int) × (List Int) × (List Int)) → Option (Ag × Bool)) : Nat → ((List Int) × (List Int) × (List Int) × Int) → Option (Ag × Bool)
 | 0, _ => none
 | n4 + 1, v4 =>
  AW ((decide (v4.2.2.2 < (p0.fVersions.length : Int))))
   ((A9 p0.fVersions v4.2.2.2).bind fun v7 =>
   (Ef (v4.1.length + (([(IntKind.wrap .i64 (1 + (IntKind.wrap .i64 ((Int.tmod v7 3)))))] : List Int)).length ≤ D3)).bind fun _ =>
   (DW N p0.fNow v4.2.2.2).bind fun v9 =>
   (Ef ((IntKind.wrap .i64 (1 + (IntKind.wrap .i64 ((Int.tmod v7 3))))) ≠ 0)).bind fun _ =>
   (Ef (v4.2.1.length + (([(Int.tmod v9 ((IntKind.wrap .i64 (1 + (IntKind.wrap .i64 ((Int.tmod v7 3)))))))] : List Int)).length ≤ D3)).bind fun _ =>
   (DW N p0.fTarget v4.2.2.2).bind fun v12 =>
   (Ef ((IntKind.wrap .i64 (1 + (IntKind.wrap .i64 ((Int.tmod v7 3))))) ≠ 0)).bind fun _ =>
   (Ef (v4.2.2.1.length + (([(Int.tmod v12 ((IntKind.wrap .i64 (1 + (IntKind.wrap .i64 ((Int.tmod v7 3)))))))] : List Int)).length ≤ D3)).bind fun _ =>
   CK N p0 j4 n4 (v4.1 ++ (([(IntKind.wrap .i64 (1 + (IntKind.wrap .i64 ((Int.tmod v7 3)))))] : List Int)), v4.2.1 ++ (([(Int.tmod v9 ((IntKind.wrap .i64 (1 + (IntKind.wrap .i64 ((Int.tmod v7 3)))))))] : List Int)), v4.2.2.1 ++ (([(Int.tmod v12 ((IntKind.wrap .i64 (1 + (IntKind.wrap .i64 ((Int.tmod v7 3)))))))] : List Int)), (IntKind.wrap .i64 (v4.2.2.2 + 1))))
   (j4 (v4.1, v4.2.1, v4.2.2.1))
def By (N : Nat) (p0 : CI) (v5 : (List Int) × (List Int) × (List Int)) (j15 : ((List AF)) → Option (Ag × Bool)) : Nat → ((List AF) × Int) → Option (Ag × Bool)
 | 0, _ => none
 | n15 + 1, v15 =>
  Ba (fun (v17 : Bool) =>
   AW v17
    ((A9 p0.fLinks v15.2).bind fun v20 =>
    (Ef ((v5.1.length : Int) ≠ 0)).bind fun _ =>
    (Ef ((v5.1.length : Int) ≠ 0)).bind fun _ =>
    Ba (fun (v23 : Bool) =>
     (A9 v5.1 ((Int.tmod ((IntKind.wrap .i64 v20.fFrom)) ((v5.1.length : Int))))).bind fun v26 =>
     (A9 v5.1 ((Int.tmod ((IntKind.wrap .i64 v20.fTo)) ((v5.1.length : Int))))).bind fun v27 =>
     (DX N v26 v27 v20.fBad false).bind fun v28 =>
     Ba (fun (v29 : (List (List Bool))) =>
      (Ef (v15.1.length + (([(AF.mk ((IntKind.wrap .i64 (1 + (IntKind.wrap .i64 ((Int.tmod v20.fKind 4)))))) ((Int.tmod ((IntKind.wrap .i64 v20.fFrom)) ((v5.1.length : Int)))) ((Int.tmod ((IntKind.wrap .i64 v20.fTo)) ((v5.1.length : Int)))) v23 v28 v29)] : List AF)).length ≤ D3)).bind fun _ =>
      By N p0 v5 j15 n15 (v15.1 ++ (([(AF.mk ((IntKind.wrap .i64 (1 + (IntKind.wrap .i64 ((Int.tmod v20.fKind 4)))))) ((Int.tmod ((IntKind.wrap .i64 v20.fFrom)) ((v5.1.length : Int)))) ((Int.tmod ((IntKind.wrap .i64 v20.fTo)) ((v5.1.length : Int)))) v23 v28 v29)] : List AF)), (IntKind.wrap .i64 (v15.2 + 1))))
     fun j29 =>
     AW (((IntKind.wrap .i64 (1 + (IntKind.wrap .i64 ((Int.tmod v20.fKind 4))))) == 4))
      ((A9 v5.1 ((Int.tmod ((IntKind.wrap .i64 v20.fFrom)) ((v5.1.length : Int))))).bind fun v31 =>
      (A9 v5.1 ((Int.tmod ((IntKind.wrap .i64 v20.fFrom)) ((v5.1.length : Int))))).bind fun v32 =>
      (DX N v31 v32 v20.fLost true).bind fun v33 =>
      j29 v33)
      (j29 ([] : List (List Bool))))
    fun j23 =>
    AW v20.fAware
     ((A6 N ((AF.mk ((IntKind.wrap .i64 (1 + (IntKind.wrap .i64 ((Int.tmod v20.fKind 4)))))) ((Int.tmod ((IntKind.wrap .i64 v20.fFrom)) ((v5.1.length : Int)))) ((Int.tmod ((IntKind.wrap .i64 v20.fTo)) ((v5.1.length : Int)))) false (([] : List (List Bool))) (([] : List (List Bool)))))).bind fun v25 =>
     j23 (!v25))
     (j23 false))
    (j15 v15.1))
  fun j17 =>
  AW ((decide (v15.2 < (p0.fLinks.length : Int))))
   (j17 (decide (0 < (v5.1.length : Int))))
   (j17 false)
def EY (N : Nat) (p0 : CI) : Option (Ag × Bool) :=
 Ba (fun (v1 : Bool) =>
  AW v1
   (some ((Ag.mk (([] : List Int)) (([] : List Int)) (([] : List Int)) (([] : List AF))), false))
   (CK N p0 (fun (v5 : (List Int) × (List Int) × (List Int)) =>
    By N p0 v5 (fun (v16 : (List AF)) =>
     some ((Ag.mk v5.1 v5.2.1 v5.2.2 v16), true)) N (([] : List AF), 0)) N (([] : List Int), ([] : List Int), ([] : List Int), 0)))
 fun j1 =>
 AW ((decide (3 < (p0.fVersions.length : Int))))
  (j1 true)
  (j1 (decide (4 < (p0.fLinks.length : Int))))
def CO (_ : Nat) (p0 : Bool) : Option Ag :=
 some ((Ag.mk (([2] : List Int)) (([0] : List Int)) (([1] : List Int)) (([(AF.mk 1 0 0 false (([([true, true] : List Bool), ([p0, true] : List Bool)] : List (List Bool))) (([] : List (List Bool))))] : List AF))))
def DZ (_ : Nat) (p0 : Int) (p1 : Int) : Option Bool :=
 Ba (fun (v1 : Bool) =>
  some v1)
 fun j1 =>
 AW ((decide (0 ≤ p0)))
  (j1 (decide (p0 < p1)))
  (j1 false)
def Gp (_ : Nat) (p0 : Int) (p1 : Bool) : Option Bool :=
 Ba (fun (v1 : Bool) =>
  some v1)
 fun j1 =>
 AW ((p0 == 1))
  (j1 true)
  (AW ((p0 == 2))
   (j1 true)
   (AW ((p0 == 3))
    (j1 (!p1))
    (AW ((p0 == 4))
     (j1 (!p1))
     (j1 false))))
def DV (_ : Nat) (p0 : List Bool) (p1 : Int) : Option Bool :=
 some (((p0.length : Int) != p1))
def Bk (N : Nat) (p0 : List (List Bool)) (p1 : (List Bool) → Option Bool) (j1 : Unit → Option Int) : Nat → Int → Option Int
 | 0, _ => none
 | n1 + 1, v1 =>
  AW ((decide (v1 < (p0.length : Int))))
   ((A9 p0 v1).bind fun v4 =>
   (p1 v4).bind fun v5 =>
   AW v5
    (some v1)
    (Bk N p0 p1 j1 n1 (IntKind.wrap .i64 (v1 + 1))))
   (j1 ())
def Do (N : Nat) (p0 : List (List Bool)) (p1 : (List Bool) → Option Bool) : Option Int :=
 Bk N p0 p1 (fun (_ : Unit) =>
  some ((-1))) N 0
def CZ (N : Nat) (p0 : List (List Bool)) (p1 : (List Bool) → Option Bool) : Option Bool :=
 (Do N p0 p1).bind fun v1 =>
 some ((decide (0 ≤ v1)))
def EX (N : Nat) (p0 : List (List Bool)) (p1 : Int) (p2 : Int) : Option Bool :=
 Ba (fun (v1 : Bool) =>
  some v1)
 fun j1 =>
 AW (((p0.length : Int) == p1))
  ((CZ N p0 ((fun (x : List Bool) => DV N x p2))).bind fun v3 =>
  j1 (!v3))
  (j1 false)
def C3 (N : Nat) (p1 : AF) (j19 : Unit → Option Int) : Nat → Int → Option Int
 | 0, _ => none
 | n19 + 1, v19 =>
  AW ((decide (v19 < (p1.fRewrite.length : Int))))
   ((A9 p1.fRewrite v19).bind fun v22 =>
   (A9 v22 v19).bind fun v23 =>
   AW ((!v23))
    (some 1)
    (C3 N p1 j19 n19 (IntKind.wrap .i64 (v19 + 1))))
   (j19 ())
def F0 (N : Nat) (p0 : Ag) (p1 : AF) : Option Int :=
 (Gp N p1.fKind p1.fAware).bind fun v1 =>
 AW ((!v1))
  (some 1)
  (Ba (fun (v3 : Bool) =>
   AW v3
    (some 4)
    ((A9 p0.fVersions p1.fFrom).bind fun v8 =>
    Ba (fun (v9 : Bool) =>
     AW v9
      (some 6)
      (C3 N p1 (fun (_ : Unit) =>
       some 0) N 0))
    fun j9 =>
    (A9 p0.fVersions p1.fTo).bind fun v10 =>
    (EX N p1.fOK v8 v10).bind fun v11 =>
    AW ((!v11))
     (j9 true)
     (AW ((p1.fKind == 4))
      ((EX N p1.fRewrite v8 v8).bind fun v14 =>
      AW ((!v14))
       (j9 true)
       (AW ((!((p1.fKind == 4))))
        (j9 (decide (0 < (p1.fRewrite.length : Int))))
        (j9 false)))
      (AW ((!((p1.fKind == 4))))
       (j9 (decide (0 < (p1.fRewrite.length : Int))))
       (j9 false)))))
  fun j3 =>
  (DZ N p1.fFrom ((p0.fVersions.length : Int))).bind fun v4 =>
  AW ((!v4))
   (j3 true)
   ((DZ N p1.fTo ((p0.fVersions.length : Int))).bind fun v6 =>
   j3 (!v6)))
def BW (N : Nat) (p0 : Ag) (j7 : Unit → Option Int) : Nat → Int → Option Int
 | 0, _ => none
 | n7 + 1, v7 =>
  AW ((decide (v7 < (p0.fVersions.length : Int))))
   ((A9 p0.fVersions v7).bind fun v10 =>
   Ba (fun (v11 : Bool) =>
    AW v11
     (some 7)
     (BW N p0 j7 n7 (IntKind.wrap .i64 (v7 + 1))))
   fun j11 =>
   AW ((decide (v10 < 1)))
    (j11 true)
    (AW ((decide (6 < v10)))
     (j11 true)
     ((A9 p0.fNow v7).bind fun v14 =>
     (DZ N v14 v10).bind fun v15 =>
     AW ((!v15))
      (j11 true)
      ((A9 p0.fTarget v7).bind fun v17 =>
      (DZ N v17 v10).bind fun v18 =>
      j11 (!v18)))))
   (j7 ())
def BL (N : Nat) (p0 : Ag) (j20 : Unit → Option Int) : Nat → Int → Option Int
 | 0, _ => none
 | n20 + 1, v20 =>
  AW ((decide (v20 < (p0.fTables.length : Int))))
   ((A9 p0.fTables v20).bind fun v23 =>
   (F0 N p0 v23).bind fun v24 =>
   AW ((v24 != 0))
    (some v24)
    (BL N p0 j20 n20 (IntKind.wrap .i64 (v20 + 1))))
   (j20 ())
def Du (N : Nat) (p0 : Ag) : Option Int :=
 Ba (fun (v1 : Bool) =>
  AW v1
   (some 3)
   (Ba (fun (v4 : Bool) =>
    AW v4
     (some 6)
     (BW N p0 (fun (_ : Unit) =>
      BL N p0 (fun (_ : Unit) =>
       some 0) N 0) N 0))
   fun j4 =>
   AW (((p0.fNow.length : Int) != (p0.fVersions.length : Int)))
    (j4 true)
    (j4 ((p0.fTarget.length : Int) != (p0.fVersions.length : Int)))))
 fun j1 =>
 AW ((decide (6 < (p0.fVersions.length : Int))))
  (j1 true)
  (j1 (decide (12 < (p0.fTables.length : Int))))
def BF (_ : Nat) (p0 : List Int) : Option ((List Int)) :=
 (Ef ((([] : List Int)).length + p0.length ≤ D3)).bind fun _ =>
 some ((([] : List Int)) ++ p0)
def GH (_ : Nat) (p0 : Int) (p1 : Int) : Option (Int × Int) :=
 some ((IntKind.wrap .u32 ((En .u64 ((IntKind.wrap .u64 ((IntKind.wrap .u64 p0) * (IntKind.wrap .u64 p1)))) 32))), (IntKind.wrap .u32 ((IntKind.wrap .u64 ((IntKind.wrap .u64 p0) * (IntKind.wrap .u64 p1))))))
def GK (_ : Nat) (p0 : Int) (p1 : Int) : Option (Int × Int) :=
 some ((IntKind.wrap .u64 ((IntKind.wrap .u64 ((IntKind.wrap .u64 ((En .u64 p0 32) * (En .u64 p1 32))) + (En .u64 ((IntKind.wrap .u64 ((IntKind.wrap .u64 ((En .u64 p0 32) * (FI .u64 p1 4294967295))) + (En .u64 ((IntKind.wrap .u64 ((FI .u64 p0 4294967295) * (FI .u64 p1 4294967295)))) 32)))) 32))) + (En .u64 ((IntKind.wrap .u64 ((FI .u64 ((IntKind.wrap .u64 ((IntKind.wrap .u64 ((En .u64 p0 32) * (FI .u64 p1 4294967295))) + (En .u64 ((IntKind.wrap .u64 ((FI .u64 p0 4294967295) * (FI .u64 p1 4294967295)))) 32)))) 4294967295) + (IntKind.wrap .u64 ((FI .u64 p0 4294967295) * (En .u64 p1 32)))))) 32))), (IntKind.wrap .u64 (p0 * p1)))
def Hs (N : Nat) (p0 : Int) (p1 : Int) : Option (Int × Int) :=
 AW false
  ((GH N ((IntKind.wrap .u32 p0)) ((IntKind.wrap .u32 p1))).bind fun v2 =>
  some ((IntKind.wrap .u64 v2.1), (IntKind.wrap .u64 v2.2)))
  ((GK N p0 p1).bind fun v3 =>
  some (v3.1, v3.2))
def DM (N : Nat) (j9 : ((List Int)) → Option ((List Int))) : Nat → ((List Int) × Int) → Option ((List Int))
 | 0, _ => none
 | n9 + 1, v9 =>
  AW ((decide (v9.2 < (v9.1.length : Int))))
   ((Ef ((0 : Int) ≤ v9.2 ∧ (v9.2).toNat ≤ v9.1.length ∧ v9.1.length ≤ v9.1.length)).bind fun _ =>
   (Ef ((0 : Int) ≤ v9.2 ∧ 0 ≤ (v9.2).toNat ∧ (v9.2).toNat ≤ v9.1.length)).bind fun _ =>
   DM N j9 n9 (HU v9.1 ((v9.2).toNat) ((((v9.1.drop 0).take ((v9.2).toNat))).take (Nat.min (((v9.1.drop 0).take ((v9.2).toNat))).length ((v9.1.length - (v9.2).toNat)))), (IntKind.wrap .i64 (v9.2 + (((Nat.min (((v9.1.drop 0).take ((v9.2).toNat))).length ((v9.1.length - (v9.2).toNat))) : Nat) : Int)))))
   (j9 v9.1)
def Ej (N : Nat) (p0 : List Int) (p1 : Int) : Option ((List Int)) :=
 Ba (fun (_ : Unit) =>
  (Hs N ((IntKind.wrap .u64 ((p0.length : Int)))) ((IntKind.wrap .u64 p1))).bind fun v3 =>
  Ba (fun (_ : Unit) =>
   (Ef ((0 : Int) ≤ (IntKind.wrap .i64 v3.2) ∧ (IntKind.wrap .i64 v3.2) ≤ (IntKind.wrap .i64 v3.2) ∧ (IntKind.wrap .i64 v3.2) ≤ (D3 : Int))).bind fun _ =>
   DM N (fun (v10 : (List Int)) =>
    some v10) N (HU (List.replicate ((IntKind.wrap .i64 v3.2)).toNat ((0 : Int))) 0 (p0.take (Nat.min p0.length ((List.replicate ((IntKind.wrap .i64 v3.2)).toNat ((0 : Int))).length))), (((Nat.min p0.length ((List.replicate ((IntKind.wrap .i64 v3.2)).toNat ((0 : Int))).length)) : Nat) : Int)))
  fun j4 =>
  Ba (fun (v5 : Bool) =>
   AW v5
    (none)
    (j4 ()))
  fun j5 =>
  AW ((decide (0 < v3.1)))
   (j5 true)
   (j5 (decide (9223372036854775807 < v3.2))))
 fun j1 =>
 AW ((decide (p1 < 0)))
  (none)
  (j1 ())
def E9 (_ : Nat) (p0 : AF) : Option Bool :=
 Ba (fun (v1 : Bool) =>
  some v1)
 fun j1 =>
 AW ((p0.fKind == 3))
  (j1 true)
  (j1 (p0.fKind == 4))
def D1 (N : Nat) (p0 : Ag) (j6 : ((List Int)) → Option (Ae × Int)) : Nat → ((List Int) × Int) → Option (Ae × Int)
 | 0, _ => none
 | n6 + 1, v6 =>
  AW ((decide (v6.2 < (p0.fTables.length : Int))))
   (Ba (fun (v9 : (List Int)) =>
    D1 N p0 j6 n6 (v9, (IntKind.wrap .i64 (v6.2 + 1))))
   fun j9 =>
   (A9 p0.fTables v6.2).bind fun v10 =>
   (E9 N v10).bind fun v11 =>
   AW v11
    ((A9 p0.fNow v10.fFrom).bind fun v13 =>
    (Ef (0 ≤ v13)).bind fun _ =>
    (A9 v6.1 v6.2).bind fun _ =>
    j9 (v6.1.set ((v6.2).toNat) ((CJ .u8 1 v13))))
    (j9 v6.1))
   (j6 v6.1)
def F6 (N : Nat) (p0 : Ag) : Option (Ae × Int) :=
 (Du N p0).bind fun v1 =>
 AW ((v1 != 0))
  (some ((Ae.mk (([] : List Int)) (([] : List Int)) (([] : List Int))), v1))
  ((BF N p0.fNow).bind fun v3 =>
  (Ej N (([(-1)] : List Int)) ((p0.fNow.length : Int))).bind fun v4 =>
  (Ef ((0 : Int) ≤ (p0.fTables.length : Int) ∧ (p0.fTables.length : Int) ≤ (p0.fTables.length : Int) ∧ (p0.fTables.length : Int) ≤ (D3 : Int))).bind fun _ =>
  D1 N p0 (fun (v7 : (List Int)) =>
   some ((Ae.mk v3 v4 v7), 0)) N (List.replicate ((p0.fTables.length : Int)).toNat ((0 : Int)), 0))
def ES (_ : Nat) (p0 : Ae) (p1 : Int) : Option Int :=
 (A9 p0.fBase p1).bind fun v1 =>
 (Ef (0 ≤ v1)).bind fun _ =>
 Ba (fun (v3 : Int) =>
  some v3)
 fun j3 =>
 (A9 p0.fNext p1).bind fun v4 =>
 AW ((decide (0 ≤ v4)))
  ((A9 p0.fNext p1).bind fun v6 =>
  (Ef (0 ≤ v6)).bind fun _ =>
  j3 (Nf .u8 ((CJ .u8 1 v1)) ((CJ .u8 1 v6))))
  (j3 (CJ .u8 1 v1))
def D0 (N : Nat) (p0 : Ag) (p1 : Ae) (j7 : Unit → Option Int) : Nat → Int → Option Int
 | 0, _ => none
 | n7 + 1, v7 =>
  AW ((decide (v7 < (p0.fVersions.length : Int))))
   ((A9 p0.fVersions v7).bind fun v10 =>
   Ba (fun (v11 : Bool) =>
    AW v11
     (some 7)
     ((A9 p1.fBase v7).bind fun v20 =>
     (A9 p1.fNext v7).bind fun v21 =>
     AW ((v20 == v21))
      (some 1)
      (D0 N p0 p1 j7 n7 (IntKind.wrap .i64 (v7 + 1)))))
   fun j11 =>
   (A9 p1.fBase v7).bind fun v12 =>
   AW ((decide (v12 < 0)))
    (j11 true)
    ((A9 p1.fBase v7).bind fun v14 =>
    AW ((decide (v10 ≤ v14)))
     (j11 true)
     ((A9 p1.fNext v7).bind fun v16 =>
     AW ((decide (v16 < (-1))))
      (j11 true)
      ((A9 p1.fNext v7).bind fun v18 =>
      j11 (decide (v10 ≤ v18))))))
   (j7 ())
def DJ (N : Nat) (p0 : Ag) (p1 : Ae) (j23 : Unit → Option Int) : Nat → Int → Option Int
 | 0, _ => none
 | n23 + 1, v23 =>
  AW ((decide (v23 < (p0.fTables.length : Int))))
   ((A9 p0.fTables v23).bind fun v26 =>
   Ba (fun (v27 : Int × Int) =>
    Ba (fun (v33 : Bool) =>
     AW v33
      (some 1)
      (DJ N p0 p1 j23 n23 (IntKind.wrap .i64 (v23 + 1))))
    fun j33 =>
    (A9 p1.fHeld v23).bind fun v34 =>
    AW (((Df .u8 v27.1 v34) != 0))
     (j33 true)
     ((A9 p1.fHeld v23).bind fun v36 =>
     j33 ((Df .u8 v36 v27.2) != 0)))
   fun j27 =>
   (E9 N v26).bind fun v28 =>
   AW v28
    ((ES N p1 v26.fFrom).bind fun v30 =>
    (A9 p0.fVersions v26.fFrom).bind fun v31 =>
    (Ef (0 ≤ v31)).bind fun _ =>
    j27 (v30, (IntKind.wrap .u8 ((CJ .u8 1 v31) - 1))))
    (j27 (0, 0)))
   (j23 ())
def E3 (N : Nat) (p0 : Ag) (p1 : Ae) : Option Int :=
 (Du N p0).bind fun v1 =>
 AW ((v1 != 0))
  (some v1)
  (Ba (fun (v3 : Bool) =>
   AW v3
    (some 6)
    (D0 N p0 p1 (fun (_ : Unit) =>
     DJ N p0 p1 (fun (_ : Unit) =>
      some 0) N 0) N 0))
  fun j3 =>
  AW (((p1.fBase.length : Int) != (p0.fVersions.length : Int)))
   (j3 true)
   (AW (((p1.fNext.length : Int) != (p0.fVersions.length : Int)))
    (j3 true)
    (j3 ((p1.fHeld.length : Int) != (p0.fTables.length : Int)))))
def BP (_ : Nat) (p0 : List Int) : Option ((List Int)) :=
 (Ef ((([] : List Int)).length + p0.length ≤ D3)).bind fun _ =>
 some ((([] : List Int)) ++ p0)
def DH (N : Nat) (p1 : Ae) (j3 : ((List Int)) → Option ((List Ae) × Int)) : Nat → ((List Int) × Int) → Option ((List Ae) × Int)
 | 0, _ => none
 | n3 + 1, v3 =>
  AW ((decide (v3.2 < (p1.fNext.length : Int))))
   (Ba (fun (v6 : (List Int)) =>
    DH N p1 j3 n3 (v6, (IntKind.wrap .i64 (v3.2 + 1))))
   fun j6 =>
   (A9 p1.fNext v3.2).bind fun v7 =>
   AW ((decide (0 ≤ v7)))
    ((Ef (v3.1.length + (([v3.2] : List Int)).length ≤ D3)).bind fun _ =>
    j6 (v3.1 ++ (([v3.2] : List Int))))
    (j6 v3.1))
   (j3 v3.1)
def CW (N : Nat) (v4 : (List Int)) (v11 : (List Ae) × Int) (j17 : ((List Int)) → Option ((List Ae) × Int)) : Nat → ((List Int) × Int) → Option ((List Ae) × Int)
 | 0, _ => none
 | n17 + 1, v17 =>
  AW ((decide (v17.2 < (v4.length : Int))))
   (Ba (fun (v20 : (List Int)) =>
    CW N v4 v11 j17 n17 (v20, (IntKind.wrap .i64 (v17.2 + 1))))
   fun j20 =>
   (A9 v4 v17.2).bind fun v21 =>
   (Ef (0 ≤ v17.2)).bind fun _ =>
   AW (((FI .i64 ((En .i64 v11.2 v17.2)) 1) == 1))
    ((A9 v17.1 v21).bind fun _ =>
    j20 (v17.1.set ((v21).toNat) ((-1))))
    (j20 v17.1))
   (j17 v17.1)
def CY (N : Nat) (p1 : Ae) (v4 : (List Int)) (j11 : ((List Ae)) → Option ((List Ae) × Int)) : Nat → ((List Ae) × Int) → Option ((List Ae) × Int)
 | 0, _ => none
 | n11 + 1, v11 =>
  AW ((decide (v11.2 < (CJ .i64 1 ((v4.length : Int))))))
   ((BF N p1.fBase).bind fun v14 =>
   (BF N p1.fNext).bind fun v15 =>
   (BP N p1.fHeld).bind fun v16 =>
   CW N v4 v11 (fun (v18 : (List Int)) =>
    (Ef (v11.1.length + (([(Ae.mk v14 v18 v16)] : List Ae)).length ≤ D3)).bind fun _ =>
    CY N p1 v4 j11 n11 (v11.1 ++ (([(Ae.mk v14 v18 v16)] : List Ae)), (IntKind.wrap .i64 (v11.2 + 1)))) N (v15, 0))
   (j11 v11.1)
def Fz (N : Nat) (p0 : Ag) (p1 : Ae) : Option ((List Ae) × Int) :=
 (E3 N p0 p1).bind fun v1 =>
 AW ((v1 != 0))
  (some (([] : List Ae), v1))
  (DH N p1 (fun (v4 : (List Int)) =>
   (Ef (0 ≤ (v4.length : Int))).bind fun _ =>
   CY N p1 v4 (fun (v12 : (List Ae)) =>
    some (v12, 0)) N (([] : List Ae), 0)) N (([] : List Int), 0))
def BV (N : Nat) (v1 : (List Av) × Int) (v4 : AF) (v6 : Int) (v11 : (List Av) × Int) (v17 : List Bool) (j18 : ((List Av) × Bool) → Option ((List Av))) : Nat → ((List Av) × Bool × Int) → Option ((List Av))
 | 0, _ => none
 | n18 + 1, v18 =>
  AW ((decide (v18.2.2 < (v17.length : Int))))
   (Ba (fun (v21 : (List Av) × Bool) =>
    BV N v1 v4 v6 v11 v17 j18 n18 (v21.1, v21.2, (IntKind.wrap .i64 (v18.2.2 + 1))))
   fun j21 =>
   (A9 v17 v18.2.2).bind fun v22 =>
   (Ef (0 ≤ v18.2.2)).bind fun _ =>
   AW (((FI .u8 ((En .u8 v6 v18.2.2)) 1) == 0))
    (j21 (v18.1, v18.2.1))
    (Ba (fun (v25 : Bool) =>
     Ba (fun (v27 : Bool) =>
      AW v27
       ((Ef (v18.1.length + (([(Av.mk v1.2 v11.2 v18.2.2)] : List Av)).length ≤ D3)).bind fun _ =>
       j21 (v18.1 ++ (([(Av.mk v1.2 v11.2 v18.2.2)] : List Av)), v25))
       (j21 (v18.1, v25)))
     fun j27 =>
     AW ((!v22))
      (j27 (!v4.fAware))
      (j27 false))
    fun j25 =>
    AW v18.2.1
     (j25 true)
     (j25 v22)))
   (j18 (v18.1, v18.2.1))
def Ck (N : Nat) (v1 : (List Av) × Int) (v4 : AF) (v6 : Int) (v7 : Int) (j11 : ((List Av)) → Option ((List Av))) : Nat → ((List Av) × Int) → Option ((List Av))
 | 0, _ => none
 | n11 + 1, v11 =>
  AW ((decide (v11.2 < (v4.fOK.length : Int))))
   (Ba (fun (v14 : (List Av)) =>
    Ck N v1 v4 v6 v7 j11 n11 (v14, (IntKind.wrap .i64 (v11.2 + 1))))
   fun j14 =>
   (Ef (0 ≤ v11.2)).bind fun _ =>
   AW (((FI .u8 ((En .u8 v7 v11.2)) 1) == 0))
    (j14 v11.1)
    ((A9 v4.fOK v11.2).bind fun v17 =>
    BV N v1 v4 v6 v11 v17 (fun (v19 : (List Av) × Bool) =>
     Ba (fun (v31 : Bool) =>
      AW v31
       ((Ef (v19.1.length + (([(Av.mk v1.2 v11.2 ((-1)))] : List Av)).length ≤ D3)).bind fun _ =>
       j14 (v19.1 ++ (([(Av.mk v1.2 v11.2 ((-1)))] : List Av))))
       (j14 v19.1))
     fun j31 =>
     AW v4.fAware
      (j31 (!v19.2))
      (j31 false)) N (v11.1, false, 0)))
   (j11 v11.1)
def Dl (N : Nat) (p0 : Ag) (p1 : Ae) (j1 : ((List Av)) → Option ((List Av))) : Nat → ((List Av) × Int) → Option ((List Av))
 | 0, _ => none
 | n1 + 1, v1 =>
  AW ((decide (v1.2 < (p0.fTables.length : Int))))
   ((A9 p0.fTables v1.2).bind fun v4 =>
   (ES N p1 v4.fFrom).bind fun v5 =>
   (ES N p1 v4.fTo).bind fun v6 =>
   Ba (fun (v7 : Int) =>
    Ck N v1 v4 v6 v7 (fun (v12 : (List Av)) =>
     Dl N p0 p1 j1 n1 (v12, (IntKind.wrap .i64 (v1.2 + 1)))) N (v1.1, 0))
   fun j7 =>
   (E9 N v4).bind fun v8 =>
   AW v8
    ((A9 p1.fHeld v1.2).bind fun v10 =>
    j7 v10)
    (j7 v5))
   (j1 v1.1)
def Fk (N : Nat) (p0 : Ag) (p1 : Ae) : Option ((List Av)) :=
 Dl N p0 p1 (fun (v2 : (List Av)) =>
  some v2) N (([] : List Av), 0)
def Ew (N : Nat) (p0 : Ag) (v1 : (List Ae) × Int) (j3 : Unit → Option (Ae × Av × Int)) : Nat → Int → Option (Ae × Av × Int)
 | 0, _ => none
 | n3 + 1, v3 =>
  AW ((decide (v3 < (v1.1.length : Int))))
   ((A9 v1.1 v3).bind fun v6 =>
   (Fk N p0 v6).bind fun v7 =>
   AW ((decide (0 < (v7.length : Int))))
    ((A9 v7 0).bind fun v9 =>
    some (v6, v9, 0))
    (Ew N p0 v1 j3 n3 (IntKind.wrap .i64 (v3 + 1))))
   (j3 ())
def G1 (N : Nat) (p0 : Ag) (p1 : Ae) : Option (Ae × Av × Int) :=
 (Fz N p0 p1).bind fun v1 =>
 AW ((v1.2 != 0))
  (some ((Ae.mk (([] : List Int)) (([] : List Int)) (([] : List Int))), (Av.mk 0 0 0), v1.2))
  (Ew N p0 v1 (fun (_ : Unit) =>
   some ((Ae.mk (([] : List Int)) (([] : List Int)) (([] : List Int))), (Av.mk 0 0 0), 15)) N 0)
def Fa (N : Nat) (p0 : Ag) (p1 : Ae) : Option (Bool × Int) :=
 (G1 N p0 p1).bind fun v1 =>
 AW ((v1.2.2 == 0))
  (some (false, 0))
  (AW ((v1.2.2 == 15))
   (some (true, 0))
   (some (false, v1.2.2)))
def zFS (N : Nat) (p0 : Ag) : Option (Ae × Bool × Int) :=
 (F6 N p0).bind fun v1 =>
 AW ((v1.2 != 0))
  (some ((Ae.mk (([] : List Int)) (([] : List Int)) (([] : List Int))), false, v1.2))
  ((Fa N p0 v1.1).bind fun v3 =>
  some (v1.1, v3.1, v3.2))
def Gz (N : Nat) (p0 : Ae) (j1 : ((List Int)) → Option ByteArray) : Nat → ((List Int) × Int) → Option ByteArray
 | 0, _ => none
 | n1 + 1, v1 =>
  AW ((decide (v1.2 < (p0.fBase.length : Int))))
   ((A9 p0.fBase v1.2).bind fun v4 =>
   (A9 p0.fNext v1.2).bind fun v5 =>
   (Ef (v1.1.length + (([(IntKind.wrap .u8 v4), (IntKind.wrap .u8 ((IntKind.wrap .i64 (v5 + 1))))] : List Int)).length ≤ D3)).bind fun _ =>
   Gz N p0 j1 n1 (v1.1 ++ (([(IntKind.wrap .u8 v4), (IntKind.wrap .u8 ((IntKind.wrap .i64 (v5 + 1))))] : List Int)), (IntKind.wrap .i64 (v1.2 + 1))))
   (j1 v1.1)
def GA (N : Nat) (p0 : Ae) (j7 : ((List Int)) → Option ByteArray) : Nat → ((List Int) × Int) → Option ByteArray
 | 0, _ => none
 | n7 + 1, v7 =>
  AW ((decide (v7.2 < (p0.fHeld.length : Int))))
   ((A9 p0.fHeld v7.2).bind fun v10 =>
   (Ef (v7.1.length + (([v10] : List Int)).length ≤ D3)).bind fun _ =>
   GA N p0 j7 n7 (v7.1 ++ (([v10] : List Int)), (IntKind.wrap .i64 (v7.2 + 1))))
   (j7 v7.1)
def G7 (N : Nat) (p0 : Ae) : Option ByteArray :=
 Gz N p0 (fun (v2 : (List Int)) =>
  GA N p0 (fun (v8 : (List Int)) =>
   some ((Is v8))) N (v2, 0)) N (([] : List Int), 0)
def Es (N : Nat) (v1 : (List Ak) × Int) (v4 : Int) (j5 : ((List Ak)) → Option ((List Ak))) : Nat → ((List Ak) × Int) → Option ((List Ak))
 | 0, _ => none
 | n5 + 1, v5 =>
  AW ((decide (v5.2 < v4)))
   ((Ef (v5.1.length + (([(Ak.mk 1 v1.2 v5.2)] : List Ak)).length ≤ D3)).bind fun _ =>
   Es N v1 v4 j5 n5 (v5.1 ++ (([(Ak.mk 1 v1.2 v5.2)] : List Ak)), (IntKind.wrap .i64 (v5.2 + 1))))
   (j5 v5.1)
def C6 (N : Nat) (p0 : Ag) (j1 : ((List Ak)) → Option ((List Ak))) : Nat → ((List Ak) × Int) → Option ((List Ak))
 | 0, _ => none
 | n1 + 1, v1 =>
  AW ((decide (v1.2 < (p0.fVersions.length : Int))))
   ((A9 p0.fVersions v1.2).bind fun v4 =>
   Es N v1 v4 (fun (v6 : (List Ak)) =>
    C6 N p0 j1 n1 (v6, (IntKind.wrap .i64 (v1.2 + 1)))) N (v1.1, 0))
   (j1 v1.1)
def Ch (N : Nat) (p0 : Ag) (j9 : ((List Ak)) → Option ((List Ak))) : Nat → ((List Ak) × Int) → Option ((List Ak))
 | 0, _ => none
 | n9 + 1, v9 =>
  AW ((decide (v9.2 < (p0.fVersions.length : Int))))
   ((Ef (v9.1.length + (([(Ak.mk 2 v9.2 0)] : List Ak)).length ≤ D3)).bind fun _ =>
   Ch N p0 j9 n9 (v9.1 ++ (([(Ak.mk 2 v9.2 0)] : List Ak)), (IntKind.wrap .i64 (v9.2 + 1))))
   (j9 v9.1)
def Bp (N : Nat) (p0 : Ag) (j13 : ((List Ak)) → Option ((List Ak))) : Nat → ((List Ak) × Int) → Option ((List Ak))
 | 0, _ => none
 | n13 + 1, v13 =>
  AW ((decide (v13.2 < (p0.fTables.length : Int))))
   ((Ef (v13.1.length + (([(Ak.mk 3 v13.2 0)] : List Ak)).length ≤ D3)).bind fun _ =>
   Bp N p0 j13 n13 (v13.1 ++ (([(Ak.mk 3 v13.2 0)] : List Ak)), (IntKind.wrap .i64 (v13.2 + 1))))
   (j13 v13.1)
def HC (N : Nat) (p0 : Ag) : Option ((List Ak)) :=
 C6 N p0 (fun (v2 : (List Ak)) =>
  Ch N p0 (fun (v10 : (List Ak)) =>
   Bp N p0 (fun (v14 : (List Ak)) =>
    some v14) N (v10, 0)) N (v2, 0)) N (([] : List Ak), 0)
def Fd (N : Nat) (p0 : Ae) : Option Ae :=
 (BF N p0.fBase).bind fun v1 =>
 (BF N p0.fNext).bind fun v2 =>
 (BP N p0.fHeld).bind fun v3 =>
 some ((Ae.mk v1 v2 v3))
def Fe (_ : Nat) (p0 : AF) : Option Bool :=
 Ba (fun (v1 : Bool) =>
  some v1)
 fun j1 =>
 AW ((p0.fKind == 3))
  (j1 true)
  (j1 (p0.fKind == 4))
def DL (N : Nat) (p0 : Ag) (p2 : Ak) (j7 : ((List Int)) → Option (Bool × (List Int) × (List Int))) : Nat → ((List Int) × Int) → Option (Bool × (List Int) × (List Int))
 | 0, _ => none
 | n7 + 1, v7 =>
  AW ((decide (v7.2 < (p0.fTables.length : Int))))
   (Ba (fun (v10 : (List Int)) =>
    DL N p0 p2 j7 n7 (v10, (IntKind.wrap .i64 (v7.2 + 1))))
   fun j10 =>
   (A9 p0.fTables v7.2).bind fun v11 =>
   Ba (fun (v12 : Bool) =>
    AW v12
     ((A9 v7.1 v7.2).bind fun v16 =>
     (Ef (0 ≤ p2.fVersion)).bind fun _ =>
     (A9 v7.1 v7.2).bind fun _ =>
     j10 (v7.1.set ((v7.2).toNat) ((Nf .u8 v16 ((CJ .u8 1 p2.fVersion))))))
     (j10 v7.1))
   fun j12 =>
   AW ((v11.fFrom == p2.fIndex))
    ((Fe N v11).bind fun v14 =>
    j12 v14)
    (j12 false))
   (j7 v7.1)
def Hv (N : Nat) (p0 : Ag) (p1 : Ae) (p2 : Ak) : Option (Bool × (List Int) × (List Int)) :=
 Ba (fun (v1 : Bool) =>
  AW v1
   (some (false, p1.fNext, p1.fHeld))
   ((A9 p1.fNext p2.fIndex).bind fun _ =>
   DL N p0 p2 (fun (v8 : (List Int)) =>
    some (true, p1.fNext.set ((p2.fIndex).toNat) p2.fVersion, v8)) N (p1.fHeld, 0)))
 fun j1 =>
 (A9 p1.fNext p2.fIndex).bind fun v2 =>
 AW ((decide (0 ≤ v2)))
  (j1 true)
  ((A9 p1.fBase p2.fIndex).bind fun v4 =>
  j1 (v4 == p2.fVersion))
def Fx (_ : Nat) (p0 : Ae) (p1 : Int) : Option Int :=
 (A9 p0.fBase p1).bind fun v1 =>
 (Ef (0 ≤ v1)).bind fun _ =>
 Ba (fun (v3 : Int) =>
  some v3)
 fun j3 =>
 (A9 p0.fNext p1).bind fun v4 =>
 AW ((decide (0 ≤ v4)))
  ((A9 p0.fNext p1).bind fun v6 =>
  (Ef (0 ≤ v6)).bind fun _ =>
  j3 (Nf .u8 ((CJ .u8 1 v1)) ((CJ .u8 1 v6))))
  (j3 (CJ .u8 1 v1))
def C0 (_ : Nat) (p0 : Int) : Option Int :=
 (Q0 ((⟨⟨(List.append (List.append [8, 0, 1, 0, 2, 0, 1, 0, 3, 0, 1, 0, 2, 0, 1, 0, 4, 0, 1, 0, 2, 0, 1, 0, 3, 0, 1, 0, 2, 0, 1, 0, 5, 0, 1, 0, 2, 0, 1, 0, 3, 0, 1, 0, 2, 0, 1, 0, 4, 0, 1, 0, 2, 0, 1, 0, 3, 0, 1, 0, 2, 0, 1, 0] [6, 0, 1, 0, 2, 0, 1, 0, 3, 0, 1, 0, 2, 0, 1, 0, 4, 0, 1, 0, 2, 0, 1, 0, 3, 0, 1, 0, 2, 0, 1, 0, 5, 0, 1, 0, 2, 0, 1, 0, 3, 0, 1, 0, 2, 0, 1, 0, 4, 0, 1, 0, 2, 0, 1, 0, 3, 0, 1, 0, 2, 0, 1, 0]) (List.append [7, 0, 1, 0, 2, 0, 1, 0, 3, 0, 1, 0, 2, 0, 1, 0, 4, 0, 1, 0, 2, 0, 1, 0, 3, 0, 1, 0, 2, 0, 1, 0, 5, 0, 1, 0, 2, 0, 1, 0, 3, 0, 1, 0, 2, 0, 1, 0, 4, 0, 1, 0, 2, 0, 1, 0, 3, 0, 1, 0, 2, 0, 1, 0] [6, 0, 1, 0, 2, 0, 1, 0, 3, 0, 1, 0, 2, 0, 1, 0, 4, 0, 1, 0, 2, 0, 1, 0, 3, 0, 1, 0, 2, 0, 1, 0, 5, 0, 1, 0, 2, 0, 1, 0, 3, 0, 1, 0, 2, 0, 1, 0, 4, 0, 1, 0, 2, 0, 1, 0, 3, 0, 1, 0, 2, 0, 1, 0]))⟩⟩ : ByteArray)) p0).bind fun v1 =>
 some ((IntKind.wrap .i64 v1))
def Dv (N : Nat) (p0 : AF) (p2 : Int) (j1 : Unit → Option Bool) : Nat → Int → Option Bool
 | 0, _ => none
 | n1 + 1, v1 =>
  AW ((v1 != 0))
   ((C0 N v1).bind fun v4 =>
   (A9 p0.fRewrite v4).bind fun v5 =>
   (A9 v5 p2).bind fun v6 =>
   AW ((!v6))
    (some false)
    (Dv N p0 p2 j1 n1 (FI .u8 v1 ((IntKind.wrap .u8 (v1 - 1))))))
   (j1 ())
def Fq (N : Nat) (p0 : AF) (p1 : Int) (p2 : Int) : Option Bool :=
 Dv N p0 p2 (fun (_ : Unit) =>
  some true) N p1
def Gn (N : Nat) (p0 : Ag) (p1 : Ae) (p2 : Int) : Option (Bool × (List Int)) :=
 (A9 p0.fTables p2).bind fun v1 =>
 (Fe N v1).bind fun v2 =>
 AW ((!v2))
  (some (false, p1.fHeld))
  ((Fx N p1 v1.fFrom).bind fun v4 =>
  (A9 p1.fHeld p2).bind fun v5 =>
  Ba (fun (v6 : Bool) =>
   AW v6
    (some (false, p1.fHeld))
    ((A9 p1.fHeld p2).bind fun _ =>
    some (true, p1.fHeld.set ((p2).toNat) v4)))
  fun j6 =>
  (A9 p1.fHeld p2).bind fun v7 =>
  AW ((v7 == v4))
   (j6 true)
   (AW ((v1.fKind == 4))
    ((A9 p1.fBase v1.fFrom).bind fun v10 =>
    (Fq N v1 ((Df .u8 v5 v4)) v10).bind fun v11 =>
    j6 (!v11))
    (j6 false)))
def E4 (N : Nat) (p0 : Ag) (p1 : Ae) (p2 : Ak) : Option (Ae × Bool) :=
 (Fd N p1).bind fun v1 =>
 AW ((p2.fKind == 1))
  ((Hv N p0 v1 p2).bind fun v3 =>
  some ((Ae.mk v1.fBase v3.2.1 v3.2.2), v3.1))
  (AW ((p2.fKind == 3))
   ((Gn N p0 v1 p2.fIndex).bind fun v5 =>
   some ((Ae.mk v1.fBase v1.fNext v5.2), v5.1))
   ((A9 v1.fNext p2.fIndex).bind fun v6 =>
   AW ((decide (v6 < 0)))
    (some (v1, false))
    ((A9 v1.fNext p2.fIndex).bind fun _ =>
    Ba (fun (v9 : (List Int)) =>
     some ((Ae.mk v9 (v1.fNext.set ((p2.fIndex).toNat) ((-1))) v1.fHeld), true))
    fun j9 =>
    AW ((p2.fKind == 2))
     ((A9 v1.fBase p2.fIndex).bind fun _ =>
     j9 (v1.fBase.set ((p2.fIndex).toNat) v6))
     (j9 v1.fBase))))
def Dq (N : Nat) (p0 : Ak) (p1 : List Int) (p2 : List Int) (p3 : List Int) (p4 : List AF) (p5 : List Int) (p6 : List Int) (p7 : List Int) : Option Bool :=
 (E4 N ((Ag.mk p1 p2 p3 p4)) ((Ae.mk p5 p6 p7)) p0).bind fun v1 =>
 some ((!v1.2))
def A4 (N : Nat) (p0 : List Ak) (p1 : Ak → Option Bool) (j1 : Unit → Option Int) : Nat → Int → Option Int
 | 0, _ => none
 | n1 + 1, v1 =>
  AW ((decide (v1 < (p0.length : Int))))
   ((A9 p0 v1).bind fun v4 =>
   (p1 v4).bind fun v5 =>
   AW v5
    (some v1)
    (A4 N p0 p1 j1 n1 (IntKind.wrap .i64 (v1 + 1))))
   (j1 ())
def BH (N : Nat) (p0 : List Ak) (p1 : Ak → Option Bool) : Option Int :=
 A4 N p0 p1 (fun (_ : Unit) =>
  some ((-1))) N 0
def A0 (N : Nat) (p1 : Ak → Option Bool) (j3 : ((List Ak) × Int) → Option (Nat × (List Ak))) : Nat → ((List Ak) × Int × Int) → Option (Nat × (List Ak))
 | 0, _ => none
 | n3 + 1, v3 =>
  AW ((decide (v3.2.2 < (v3.1.length : Int))))
   (Ba (fun (v6 : (List Ak) × Int) =>
    A0 N p1 j3 n3 (v6.1, v6.2, (IntKind.wrap .i64 (v3.2.2 + 1))))
   fun j6 =>
   (A9 v3.1 v3.2.2).bind fun v7 =>
   (p1 v7).bind fun v8 =>
   AW ((!v8))
    ((A9 v3.1 v3.2.1).bind fun _ =>
    j6 (v3.1.set ((v3.2.1).toNat) v7, (IntKind.wrap .i64 (v3.2.1 + 1))))
    (j6 (v3.1, v3.2.1)))
   (j3 (v3.1, v3.2.1))
def BE (N : Nat) (p0 : List Ak) (p1 : Ak → Option Bool) : Option (Nat × (List Ak)) :=
 (BH N p0 p1).bind fun v1 =>
 AW ((v1 == (-1)))
  (some (p0.length, p0))
  (A0 N p1 (fun (v4 : (List Ak) × Int) =>
   (Ef ((0 : Int) ≤ v4.2 ∧ (v4.2).toNat ≤ v4.1.length ∧ v4.1.length ≤ v4.1.length)).bind fun _ =>
   (Ef ((0 : Int) ≤ v4.2 ∧ 0 ≤ (v4.2).toNat ∧ (v4.2).toNat ≤ (HU v4.1 ((v4.2).toNat) (List.replicate ((v4.1.length - (v4.2).toNat)) ((Ak.mk 0 0 0)))).length)).bind fun _ =>
   some ((v4.2).toNat, HU v4.1 ((v4.2).toNat) (List.replicate ((v4.1.length - (v4.2).toNat)) ((Ak.mk 0 0 0))))) N (p0, v1, (IntKind.wrap .i64 (v1 + 1))))
def Fv (N : Nat) (p0 : Ag) (p1 : Ae) : Option ((List Ak) × Int) :=
 (E3 N p0 p1).bind fun v1 =>
 AW ((v1 != 0))
  (some (([] : List Ak), v1))
  ((HC N p0).bind fun v3 =>
  (BE N v3 ((fun (x : Ak) => Dq N x p0.fVersions p0.fNow p0.fTarget p0.fTables p1.fBase p1.fNext p1.fHeld))).bind fun v4 =>
  (Ef (v4.1 ≤ v4.2.length)).bind fun _ =>
  some (v4.2.take v4.1, 0))
def Gq (_ : Nat) (p0 : Ak) : Option Bool :=
 Ba (fun (v1 : Bool) =>
  AW v1
   (some false)
   (Ba (fun (v5 : Bool) =>
    some v5)
   fun j5 =>
   AW ((p0.fKind == 1))
    (j5 true)
    (j5 (p0.fVersion == 0))))
 fun j1 =>
 AW ((decide ((Rw p0.fIndex p0.fVersion) < 0)))
  (j1 true)
  (AW ((decide (p0.fKind < 1)))
   (j1 true)
   (j1 (decide (4 < p0.fKind))))
def F1 (_ : Nat) (p0 : Ag) (p1 : Ak) : Option Bool :=
 AW ((p1.fKind == 3))
  (some ((decide (p1.fIndex < (p0.fTables.length : Int)))))
  (Ba (fun (v2 : Bool) =>
   some v2)
  fun j2 =>
  AW ((decide (p1.fIndex < (p0.fVersions.length : Int))))
   (AW ((p1.fKind != 1))
    (j2 true)
    ((A9 p0.fVersions p1.fIndex).bind fun v5 =>
    j2 (decide (p1.fVersion < v5))))
   (j2 false))
def FD (N : Nat) (p0 : Ag) (p1 : Ae) (p2 : Ak) : Option (Ae × Int) :=
 (Gq N p2).bind fun v1 =>
 AW ((!v1))
  (some ((Ae.mk (([] : List Int)) (([] : List Int)) (([] : List Int))), 1))
  ((F1 N p0 p2).bind fun v3 =>
  AW ((!v3))
   (some ((Ae.mk (([] : List Int)) (([] : List Int)) (([] : List Int))), 4))
   ((E4 N p0 p1 p2).bind fun v5 =>
   AW ((!v5.2))
    (some ((Ae.mk (([] : List Int)) (([] : List Int)) (([] : List Int))), 11))
    (some (v5.1, 0))))
def Gl (N : Nat) (p0 : Ag) (p1 : Ae) (p2 : Ak) : Option (Ae × Int) :=
 (E3 N p0 p1).bind fun v1 =>
 AW ((v1 != 0))
  (some ((Ae.mk (([] : List Int)) (([] : List Int)) (([] : List Int))), v1))
  ((FD N p0 p1 p2).bind fun v3 =>
  some (v3.1, v3.2))
def EK (N : Nat) (p0 : Ag) (p1 : Ae) (v1 : (List Ak) × Int) (j2 : ((List Ak) × (List Ae)) → Option ((List Ak) × (List Ae))) : Nat → ((List Ak) × (List Ae) × Int) → Option ((List Ak) × (List Ae))
 | 0, _ => none
 | n2 + 1, v2 =>
  AW ((decide (v2.2.2 < (v1.1.length : Int))))
   (Ba (fun (v5 : (List Ak) × (List Ae)) =>
    EK N p0 p1 v1 j2 n2 (v5.1, v5.2, (IntKind.wrap .i64 (v2.2.2 + 1))))
   fun j5 =>
   (A9 v1.1 v2.2.2).bind fun v6 =>
   (Gl N p0 p1 v6).bind fun v7 =>
   AW ((v7.2 != 0))
    (j5 (v2.1, v2.2.1))
    ((Fa N p0 v7.1).bind fun v9 =>
    AW v9.1
     ((Ef (v2.1.length + (([v6] : List Ak)).length ≤ D3)).bind fun _ =>
     (Ef (v2.2.1.length + (([v7.1] : List Ae)).length ≤ D3)).bind fun _ =>
     j5 (v2.1 ++ (([v6] : List Ak)), v2.2.1 ++ (([v7.1] : List Ae))))
     (j5 (v2.1, v2.2.1))))
   (j2 (v2.1, v2.2.1))
def FE (N : Nat) (p0 : Ag) (p1 : Ae) : Option ((List Ak) × (List Ae)) :=
 (Fv N p0 p1).bind fun v1 =>
 EK N p0 p1 v1 (fun (v3 : (List Ak) × (List Ae)) =>
  some (v3.1, v3.2)) N (([] : List Ak), ([] : List Ae), 0)
def GE (_ : Nat) (p0 : Int) : Option Int :=
 Ba (fun (v1 : Int × Int) =>
  Ba (fun (v3 : Int × Int) =>
   (Q0 ((⟨⟨(List.append (List.append [0, 1, 2, 2, 3, 3, 3, 3, 4, 4, 4, 4, 4, 4, 4, 4, 5, 5, 5, 5, 5, 5, 5, 5, 5, 5, 5, 5, 5, 5, 5, 5, 6, 6, 6, 6, 6, 6, 6, 6, 6, 6, 6, 6, 6, 6, 6, 6, 6, 6, 6, 6, 6, 6, 6, 6, 6, 6, 6, 6, 6, 6, 6, 6] [7, 7, 7, 7, 7, 7, 7, 7, 7, 7, 7, 7, 7, 7, 7, 7, 7, 7, 7, 7, 7, 7, 7, 7, 7, 7, 7, 7, 7, 7, 7, 7, 7, 7, 7, 7, 7, 7, 7, 7, 7, 7, 7, 7, 7, 7, 7, 7, 7, 7, 7, 7, 7, 7, 7, 7, 7, 7, 7, 7, 7, 7, 7, 7]) (List.append [8, 8, 8, 8, 8, 8, 8, 8, 8, 8, 8, 8, 8, 8, 8, 8, 8, 8, 8, 8, 8, 8, 8, 8, 8, 8, 8, 8, 8, 8, 8, 8, 8, 8, 8, 8, 8, 8, 8, 8, 8, 8, 8, 8, 8, 8, 8, 8, 8, 8, 8, 8, 8, 8, 8, 8, 8, 8, 8, 8, 8, 8, 8, 8] [8, 8, 8, 8, 8, 8, 8, 8, 8, 8, 8, 8, 8, 8, 8, 8, 8, 8, 8, 8, 8, 8, 8, 8, 8, 8, 8, 8, 8, 8, 8, 8, 8, 8, 8, 8, 8, 8, 8, 8, 8, 8, 8, 8, 8, 8, 8, 8, 8, 8, 8, 8, 8, 8, 8, 8, 8, 8, 8, 8, 8, 8, 8, 8]))⟩⟩ : ByteArray)) ((IntKind.wrap .u8 v3.1))).bind fun v5 =>
   some ((IntKind.wrap .i64 (v3.2 + (IntKind.wrap .i64 v5)))))
  fun j3 =>
  AW ((decide (256 ≤ v1.1)))
   (j3 ((En .u32 v1.1 8), (IntKind.wrap .i64 (v1.2 + 8))))
   (j3 (v1.1, v1.2)))
 fun j1 =>
 AW ((decide (65536 ≤ p0)))
  (j1 ((En .u32 p0 16), 16))
  (j1 (p0, 0))
def GN (_ : Nat) (p0 : Int) : Option Int :=
 Ba (fun (v1 : Int × Int) =>
  Ba (fun (v3 : Int × Int) =>
   Ba (fun (v5 : Int × Int) =>
    (Q0 ((⟨⟨(List.append (List.append [0, 1, 2, 2, 3, 3, 3, 3, 4, 4, 4, 4, 4, 4, 4, 4, 5, 5, 5, 5, 5, 5, 5, 5, 5, 5, 5, 5, 5, 5, 5, 5, 6, 6, 6, 6, 6, 6, 6, 6, 6, 6, 6, 6, 6, 6, 6, 6, 6, 6, 6, 6, 6, 6, 6, 6, 6, 6, 6, 6, 6, 6, 6, 6] [7, 7, 7, 7, 7, 7, 7, 7, 7, 7, 7, 7, 7, 7, 7, 7, 7, 7, 7, 7, 7, 7, 7, 7, 7, 7, 7, 7, 7, 7, 7, 7, 7, 7, 7, 7, 7, 7, 7, 7, 7, 7, 7, 7, 7, 7, 7, 7, 7, 7, 7, 7, 7, 7, 7, 7, 7, 7, 7, 7, 7, 7, 7, 7]) (List.append [8, 8, 8, 8, 8, 8, 8, 8, 8, 8, 8, 8, 8, 8, 8, 8, 8, 8, 8, 8, 8, 8, 8, 8, 8, 8, 8, 8, 8, 8, 8, 8, 8, 8, 8, 8, 8, 8, 8, 8, 8, 8, 8, 8, 8, 8, 8, 8, 8, 8, 8, 8, 8, 8, 8, 8, 8, 8, 8, 8, 8, 8, 8, 8] [8, 8, 8, 8, 8, 8, 8, 8, 8, 8, 8, 8, 8, 8, 8, 8, 8, 8, 8, 8, 8, 8, 8, 8, 8, 8, 8, 8, 8, 8, 8, 8, 8, 8, 8, 8, 8, 8, 8, 8, 8, 8, 8, 8, 8, 8, 8, 8, 8, 8, 8, 8, 8, 8, 8, 8, 8, 8, 8, 8, 8, 8, 8, 8]))⟩⟩ : ByteArray)) ((IntKind.wrap .u8 v5.1))).bind fun v7 =>
    some ((IntKind.wrap .i64 (v5.2 + (IntKind.wrap .i64 v7)))))
   fun j5 =>
   AW ((decide (256 ≤ v3.1)))
    (j5 ((En .u64 v3.1 8), (IntKind.wrap .i64 (v3.2 + 8))))
    (j5 (v3.1, v3.2)))
  fun j3 =>
  AW ((decide (65536 ≤ v1.1)))
   (j3 ((En .u64 v1.1 16), (IntKind.wrap .i64 (v1.2 + 16))))
   (j3 (v1.1, v1.2)))
 fun j1 =>
 AW ((decide (4294967296 ≤ p0)))
  (j1 ((En .u64 p0 32), 32))
  (j1 (p0, 0))
def F3 (N : Nat) (p0 : Int) : Option Int :=
 AW false
  ((GE N ((IntKind.wrap .u32 p0))).bind fun v2 =>
  some v2)
  ((GN N p0).bind fun v3 =>
  some v3)
def B2 (N : Nat) (p1 : Int) (p3 : (Ae × Ae) → Option Int) (j4 : ((List Ae)) → Option ((List Ae))) : Nat → ((List Ae) × Int) → Option ((List Ae))
 | 0, _ => none
 | n4 + 1, v4 =>
  Ba (fun (v6 : Bool) =>
   AW v6
    ((A9 v4.1 ((IntKind.wrap .i64 (v4.2 - 1)))).bind fun v12 =>
    (A9 v4.1 v4.2).bind fun v13 =>
    (A9 v4.1 v4.2).bind fun _ =>
    (A9 (v4.1.set ((v4.2).toNat) v12) ((IntKind.wrap .i64 (v4.2 - 1)))).bind fun _ =>
    B2 N p1 p3 j4 n4 ((v4.1.set ((v4.2).toNat) v12).set (((IntKind.wrap .i64 (v4.2 - 1))).toNat) v13, (IntKind.wrap .i64 (v4.2 - 1))))
    (j4 v4.1))
  fun j6 =>
  AW ((decide (p1 < v4.2)))
   ((A9 v4.1 v4.2).bind fun v8 =>
   (A9 v4.1 ((IntKind.wrap .i64 (v4.2 - 1)))).bind fun v9 =>
   (p3 ((v8, v9))).bind fun v10 =>
   j6 (decide (v10 < 0)))
   (j6 false)
def B4 (N : Nat) (p1 : Int) (p2 : Int) (p3 : (Ae × Ae) → Option Int) (j1 : ((List Ae)) → Option ((List Ae))) : Nat → ((List Ae) × Int) → Option ((List Ae))
 | 0, _ => none
 | n1 + 1, v1 =>
  AW ((decide (v1.2 < p2)))
   (B2 N p1 p3 (fun (v5 : (List Ae)) =>
    B4 N p1 p2 p3 j1 n1 (v5, (IntKind.wrap .i64 (v1.2 + 1)))) N (v1.1, v1.2))
   (j1 v1.1)
def C5 (N : Nat) (p0 : List Ae) (p1 : Int) (p2 : Int) (p3 : (Ae × Ae) → Option Int) : Option ((List Ae)) :=
 B4 N p1 p2 p3 (fun (v2 : (List Ae)) =>
  some v2) N (p0, (IntKind.wrap .i64 (p1 + 1)))
def CC (N : Nat) (p2 : Int) (p3 : Int) (p4 : (Ae × Ae) → Option Int) (j1 : ((List Ae)) → Option ((List Ae))) : Nat → ((List Ae) × Int) → Option ((List Ae))
 | 0, _ => none
 | n1 + 1, v1 =>
  AW ((decide (p2 ≤ (IntKind.wrap .i64 ((IntKind.wrap .i64 (2 * v1.2)) + 1)))))
   (j1 v1.1)
   (Ba (fun (v4 : Int) =>
    (A9 v1.1 ((IntKind.wrap .i64 (p3 + v1.2)))).bind fun v11 =>
    (A9 v1.1 ((IntKind.wrap .i64 (p3 + v4)))).bind fun v12 =>
    (p4 ((v11, v12))).bind fun v13 =>
    AW ((!((decide (v13 < 0)))))
     (some v1.1)
     ((A9 v1.1 ((IntKind.wrap .i64 (p3 + v4)))).bind fun v15 =>
     (A9 v1.1 ((IntKind.wrap .i64 (p3 + v1.2)))).bind fun v16 =>
     (A9 v1.1 ((IntKind.wrap .i64 (p3 + v1.2)))).bind fun _ =>
     (A9 (v1.1.set (((IntKind.wrap .i64 (p3 + v1.2))).toNat) v15) ((IntKind.wrap .i64 (p3 + v4)))).bind fun _ =>
     CC N p2 p3 p4 j1 n1 ((v1.1.set (((IntKind.wrap .i64 (p3 + v1.2))).toNat) v15).set (((IntKind.wrap .i64 (p3 + v4))).toNat) v16, v4)))
   fun j4 =>
   Ba (fun (v5 : Bool) =>
    AW v5
     (j4 (IntKind.wrap .i64 ((IntKind.wrap .i64 ((IntKind.wrap .i64 (2 * v1.2)) + 1)) + 1)))
     (j4 (IntKind.wrap .i64 ((IntKind.wrap .i64 (2 * v1.2)) + 1))))
   fun j5 =>
   AW ((decide ((IntKind.wrap .i64 ((IntKind.wrap .i64 ((IntKind.wrap .i64 (2 * v1.2)) + 1)) + 1)) < p2)))
    ((A9 v1.1 ((IntKind.wrap .i64 (p3 + (IntKind.wrap .i64 ((IntKind.wrap .i64 (2 * v1.2)) + 1)))))).bind fun v7 =>
    (A9 v1.1 ((IntKind.wrap .i64 ((IntKind.wrap .i64 (p3 + (IntKind.wrap .i64 ((IntKind.wrap .i64 (2 * v1.2)) + 1)))) + 1)))).bind fun v8 =>
    (p4 ((v7, v8))).bind fun v9 =>
    j5 (decide (v9 < 0)))
    (j5 false))
def CU (N : Nat) (p0 : List Ae) (p1 : Int) (p2 : Int) (p3 : Int) (p4 : (Ae × Ae) → Option Int) : Option ((List Ae)) :=
 CC N p2 p3 p4 (fun (v2 : (List Ae)) =>
  some v2) N (p0, p1)
def CB (N : Nat) (p1 : Int) (p2 : Int) (p3 : (Ae × Ae) → Option Int) (j1 : ((List Ae)) → Option ((List Ae))) : Nat → ((List Ae) × Int) → Option ((List Ae))
 | 0, _ => none
 | n1 + 1, v1 =>
  AW ((decide (0 ≤ v1.2)))
   ((CU N v1.1 v1.2 ((IntKind.wrap .i64 (p2 - p1))) p1 p3).bind fun v4 =>
   CB N p1 p2 p3 j1 n1 (v4, (IntKind.wrap .i64 (v1.2 - 1))))
   (j1 v1.1)
def CE (N : Nat) (p1 : Int) (p3 : (Ae × Ae) → Option Int) (j5 : ((List Ae)) → Option ((List Ae))) : Nat → ((List Ae) × Int) → Option ((List Ae))
 | 0, _ => none
 | n5 + 1, v5 =>
  AW ((decide (0 ≤ v5.2)))
   ((A9 v5.1 ((IntKind.wrap .i64 (p1 + v5.2)))).bind fun v8 =>
   (A9 v5.1 p1).bind fun v9 =>
   (A9 v5.1 p1).bind fun _ =>
   (A9 (v5.1.set ((p1).toNat) v8) ((IntKind.wrap .i64 (p1 + v5.2)))).bind fun _ =>
   (CU N ((v5.1.set ((p1).toNat) v8).set (((IntKind.wrap .i64 (p1 + v5.2))).toNat) v9) 0 v5.2 p1 p3).bind fun v12 =>
   CE N p1 p3 j5 n5 (v12, (IntKind.wrap .i64 (v5.2 - 1))))
   (j5 v5.1)
def DO (N : Nat) (p0 : List Ae) (p1 : Int) (p2 : Int) (p3 : (Ae × Ae) → Option Int) : Option ((List Ae)) :=
 CB N p1 p2 p3 (fun (v2 : (List Ae)) =>
  CE N p1 p3 (fun (v6 : (List Ae)) =>
   some v6) N (v2, (IntKind.wrap .i64 ((IntKind.wrap .i64 (p2 - p1)) - 1)))) N (p0, (IntKind.wrap .i64 (Int.tdiv ((IntKind.wrap .i64 ((IntKind.wrap .i64 (p2 - p1)) - 1))) 2)))
def E8 (N : Nat) (p0 : Int) : Option Int :=
 (F3 N ((IntKind.wrap .u64 p0))).bind fun v1 =>
 (Ef (0 ≤ v1)).bind fun _ =>
 some ((CJ .u64 1 v1))
def Fg (_ : Nat) (p0 : Int) : Option (Int × Int) :=
 some ((GM .u64 ((GM .u64 ((GM .u64 p0 ((CJ .u64 p0 13)))) ((En .u64 ((GM .u64 p0 ((CJ .u64 p0 13)))) 7)))) ((CJ .u64 ((GM .u64 ((GM .u64 p0 ((CJ .u64 p0 13)))) ((En .u64 ((GM .u64 p0 ((CJ .u64 p0 13)))) 7)))) 17))), (GM .u64 ((GM .u64 ((GM .u64 p0 ((CJ .u64 p0 13)))) ((En .u64 ((GM .u64 p0 ((CJ .u64 p0 13)))) 7)))) ((CJ .u64 ((GM .u64 ((GM .u64 p0 ((CJ .u64 p0 13)))) ((En .u64 ((GM .u64 p0 ((CJ .u64 p0 13)))) 7)))) 17))))
def B3 (N : Nat) (p1 : Int) (p2 : Int) (v2 : Int) (j3 : ((List Ae)) → Option ((List Ae))) : Nat → ((List Ae) × Int × Int) → Option ((List Ae))
 | 0, _ => none
 | n3 + 1, v3 =>
  AW ((decide (v3.2.2 ≤ (IntKind.wrap .i64 ((IntKind.wrap .i64 (p1 + (IntKind.wrap .i64 ((IntKind.wrap .i64 (Int.tdiv ((IntKind.wrap .i64 (p2 - p1))) 4)) * 2)))) + 1)))))
   ((Fg N v3.2.1).bind fun v6 =>
   Ba (fun (v7 : Int) =>
    (A9 v3.1 ((IntKind.wrap .i64 (p1 + v7)))).bind fun v9 =>
    (A9 v3.1 v3.2.2).bind fun v10 =>
    (A9 v3.1 v3.2.2).bind fun _ =>
    (A9 (v3.1.set ((v3.2.2).toNat) v9) ((IntKind.wrap .i64 (p1 + v7)))).bind fun _ =>
    B3 N p1 p2 v2 j3 n3 ((v3.1.set ((v3.2.2).toNat) v9).set (((IntKind.wrap .i64 (p1 + v7))).toNat) v10, v6.2, (IntKind.wrap .i64 (v3.2.2 + 1))))
   fun j7 =>
   AW ((decide ((IntKind.wrap .i64 (p2 - p1)) ≤ (IntKind.wrap .i64 ((FI .u64 v6.1 ((IntKind.wrap .u64 (v2 - 1)))))))))
    (j7 (IntKind.wrap .i64 ((IntKind.wrap .i64 ((FI .u64 v6.1 ((IntKind.wrap .u64 (v2 - 1)))))) - (IntKind.wrap .i64 (p2 - p1)))))
    (j7 (IntKind.wrap .i64 ((FI .u64 v6.1 ((IntKind.wrap .u64 (v2 - 1))))))))
   (j3 v3.1)
def C7 (N : Nat) (p0 : List Ae) (p1 : Int) (p2 : Int) (_ : (Ae × Ae) → Option Int) : Option ((List Ae)) :=
 AW ((decide (8 ≤ (IntKind.wrap .i64 (p2 - p1)))))
  ((E8 N ((IntKind.wrap .i64 (p2 - p1)))).bind fun v2 =>
  B3 N p1 p2 v2 (fun (v4 : (List Ae)) =>
   some v4) N (p0, (IntKind.wrap .u64 ((IntKind.wrap .i64 (p2 - p1)))), (IntKind.wrap .i64 ((IntKind.wrap .i64 (p1 + (IntKind.wrap .i64 ((IntKind.wrap .i64 (Int.tdiv ((IntKind.wrap .i64 (p2 - p1))) 4)) * 2)))) - 1))))
  (some p0)
def Cv (_ : Nat) (p0 : List Ae) (p1 : Int) (p2 : Int) (p3 : Int) (p4 : (Ae × Ae) → Option Int) : Option (Int × Int × Int) :=
 (A9 p0 p2).bind fun v1 =>
 (A9 p0 p1).bind fun v2 =>
 (p4 ((v1, v2))).bind fun v3 =>
 AW ((decide (v3 < 0)))
  (some (p2, p1, (IntKind.wrap .i64 (p3 + 1))))
  (some (p1, p2, p3))
def C2 (N : Nat) (p0 : List Ae) (p1 : Int) (p2 : Int) (p3 : Int) (p4 : Int) (p5 : (Ae × Ae) → Option Int) : Option (Int × Int) :=
 (Cv N p0 p1 p2 p4 p5).bind fun v1 =>
 (Cv N p0 v1.2.1 p3 v1.2.2 p5).bind fun v2 =>
 (Cv N p0 v1.1 v2.1 v2.2.2 p5).bind fun v3 =>
 some (v3.2.1, v3.2.2)
def BB (N : Nat) (p0 : List Ae) (p1 : Int) (p2 : Int) (p3 : (Ae × Ae) → Option Int) : Option (Int × Int) :=
 (C2 N p0 ((IntKind.wrap .i64 (p1 - 1))) p1 ((IntKind.wrap .i64 (p1 + 1))) p2 p3).bind fun v1 =>
 some (v1.1, v1.2)
def Dk (N : Nat) (p0 : List Ae) (p1 : Int) (p2 : Int) (p3 : (Ae × Ae) → Option Int) : Option (Int × Int) :=
 Ba (fun (v1 : Int × Int) =>
  AW ((v1.1 == 0))
   (some (v1.2, 1))
   (AW ((v1.1 == 12))
    (some (v1.2, 2))
    (some (v1.2, 0))))
 fun j1 =>
 AW ((decide (8 ≤ (IntKind.wrap .i64 (p2 - p1)))))
  (Ba (fun (v3 : Int × Int × Int × Int) =>
   (C2 N p0 v3.2.1 v3.2.2.1 v3.2.2.2 v3.1 p3).bind fun v8 =>
   j1 (v8.2, v8.1))
  fun j3 =>
  AW ((decide (50 ≤ (IntKind.wrap .i64 (p2 - p1)))))
   ((BB N p0 ((IntKind.wrap .i64 (p1 + (IntKind.wrap .i64 ((IntKind.wrap .i64 (Int.tdiv ((IntKind.wrap .i64 (p2 - p1))) 4)) * 1))))) 0 p3).bind fun v5 =>
   (BB N p0 ((IntKind.wrap .i64 (p1 + (IntKind.wrap .i64 ((IntKind.wrap .i64 (Int.tdiv ((IntKind.wrap .i64 (p2 - p1))) 4)) * 2))))) v5.2 p3).bind fun v6 =>
   (BB N p0 ((IntKind.wrap .i64 (p1 + (IntKind.wrap .i64 ((IntKind.wrap .i64 (Int.tdiv ((IntKind.wrap .i64 (p2 - p1))) 4)) * 3))))) v6.2 p3).bind fun v7 =>
   j3 (v7.2, v5.1, v6.1, v7.1))
   (j3 (0, (IntKind.wrap .i64 (p1 + (IntKind.wrap .i64 ((IntKind.wrap .i64 (Int.tdiv ((IntKind.wrap .i64 (p2 - p1))) 4)) * 1)))), (IntKind.wrap .i64 (p1 + (IntKind.wrap .i64 ((IntKind.wrap .i64 (Int.tdiv ((IntKind.wrap .i64 (p2 - p1))) 4)) * 2)))), (IntKind.wrap .i64 (p1 + (IntKind.wrap .i64 ((IntKind.wrap .i64 (Int.tdiv ((IntKind.wrap .i64 (p2 - p1))) 4)) * 3)))))))
  (j1 (0, (IntKind.wrap .i64 (p1 + (IntKind.wrap .i64 ((IntKind.wrap .i64 (Int.tdiv ((IntKind.wrap .i64 (p2 - p1))) 4)) * 2))))))
def B6 (N : Nat) (j1 : ((List Ae)) → Option ((List Ae))) : Nat → ((List Ae) × Int × Int) → Option ((List Ae))
 | 0, _ => none
 | n1 + 1, v1 =>
  AW ((decide (v1.2.1 < v1.2.2)))
   ((A9 v1.1 v1.2.2).bind fun v4 =>
   (A9 v1.1 v1.2.1).bind fun v5 =>
   (A9 v1.1 v1.2.1).bind fun _ =>
   (A9 (v1.1.set ((v1.2.1).toNat) v4) v1.2.2).bind fun _ =>
   B6 N j1 n1 ((v1.1.set ((v1.2.1).toNat) v4).set ((v1.2.2).toNat) v5, (IntKind.wrap .i64 (v1.2.1 + 1)), (IntKind.wrap .i64 (v1.2.2 - 1))))
   (j1 v1.1)
def C9 (N : Nat) (p0 : List Ae) (p1 : Int) (p2 : Int) (_ : (Ae × Ae) → Option Int) : Option ((List Ae)) :=
 B6 N (fun (v2 : (List Ae)) =>
  some v2) N (p0, p1, (IntKind.wrap .i64 (p2 - 1)))
def Bt (N : Nat) (p2 : Int) (p3 : (Ae × Ae) → Option Int) (v1 : (List Ae) × Int × Int) (j5 : Int → Option (Bool × (List Ae))) : Nat → Int → Option (Bool × (List Ae))
 | 0, _ => none
 | n5 + 1, v5 =>
  Ba (fun (v7 : Bool) =>
   AW v7
    (Bt N p2 p3 v1 j5 n5 (IntKind.wrap .i64 (v5 + 1)))
    (j5 v5))
  fun j7 =>
  AW ((decide (v5 < p2)))
   ((A9 v1.1 v5).bind fun v9 =>
   (A9 v1.1 ((IntKind.wrap .i64 (v5 - 1)))).bind fun v10 =>
   (p3 ((v9, v10))).bind fun v11 =>
   j7 (!((decide (v11 < 0)))))
   (j7 false)
def Bo (N : Nat) (p3 : (Ae × Ae) → Option Int) (j21 : ((List Ae)) → Option (Bool × (List Ae))) : Nat → ((List Ae) × Int) → Option (Bool × (List Ae))
 | 0, _ => none
 | n21 + 1, v21 =>
  AW ((decide (1 ≤ v21.2)))
   ((A9 v21.1 v21.2).bind fun v24 =>
   (A9 v21.1 ((IntKind.wrap .i64 (v21.2 - 1)))).bind fun v25 =>
   (p3 ((v24, v25))).bind fun v26 =>
   AW ((!((decide (v26 < 0)))))
    (j21 v21.1)
    ((A9 v21.1 ((IntKind.wrap .i64 (v21.2 - 1)))).bind fun v28 =>
    (A9 v21.1 v21.2).bind fun v29 =>
    (A9 v21.1 v21.2).bind fun _ =>
    (A9 (v21.1.set ((v21.2).toNat) v28) ((IntKind.wrap .i64 (v21.2 - 1)))).bind fun _ =>
    Bo N p3 j21 n21 ((v21.1.set ((v21.2).toNat) v28).set (((IntKind.wrap .i64 (v21.2 - 1))).toNat) v29, (IntKind.wrap .i64 (v21.2 - 1)))))
   (j21 v21.1)
def Bn (N : Nat) (p2 : Int) (p3 : (Ae × Ae) → Option Int) (j33 : ((List Ae)) → Option (Bool × (List Ae))) : Nat → ((List Ae) × Int) → Option (Bool × (List Ae))
 | 0, _ => none
 | n33 + 1, v33 =>
  AW ((decide (v33.2 < p2)))
   ((A9 v33.1 v33.2).bind fun v36 =>
   (A9 v33.1 ((IntKind.wrap .i64 (v33.2 - 1)))).bind fun v37 =>
   (p3 ((v36, v37))).bind fun v38 =>
   AW ((!((decide (v38 < 0)))))
    (j33 v33.1)
    ((A9 v33.1 ((IntKind.wrap .i64 (v33.2 - 1)))).bind fun v40 =>
    (A9 v33.1 v33.2).bind fun v41 =>
    (A9 v33.1 v33.2).bind fun _ =>
    (A9 (v33.1.set ((v33.2).toNat) v40) ((IntKind.wrap .i64 (v33.2 - 1)))).bind fun _ =>
    Bn N p2 p3 j33 n33 ((v33.1.set ((v33.2).toNat) v40).set (((IntKind.wrap .i64 (v33.2 - 1))).toNat) v41, (IntKind.wrap .i64 (v33.2 + 1)))))
   (j33 v33.1)
def Bv (N : Nat) (p1 : Int) (p2 : Int) (p3 : (Ae × Ae) → Option Int) (j1 : ((List Ae)) → Option (Bool × (List Ae))) : Nat → ((List Ae) × Int × Int) → Option (Bool × (List Ae))
 | 0, _ => none
 | n1 + 1, v1 =>
  AW ((decide (v1.2.2 < 5)))
   (Ba (fun (v4 : (List Ae) × Int) =>
    Bv N p1 p2 p3 j1 n1 (v4.1, v4.2, (IntKind.wrap .i64 (v1.2.2 + 1))))
   fun j4 =>
   Bt N p2 p3 v1 (fun (v6 : Int) =>
    AW ((v6 == p2))
     (some (true, v1.1))
     (AW ((decide ((IntKind.wrap .i64 (p2 - p1)) < 50)))
      (some (false, v1.1))
      ((A9 v1.1 ((IntKind.wrap .i64 (v6 - 1)))).bind fun v15 =>
      (A9 v1.1 v6).bind fun v16 =>
      (A9 v1.1 v6).bind fun _ =>
      (A9 (v1.1.set ((v6).toNat) v15) ((IntKind.wrap .i64 (v6 - 1)))).bind fun _ =>
      Ba (fun (v19 : (List Ae)) =>
       AW ((decide (2 ≤ (IntKind.wrap .i64 (p2 - v6)))))
        (Bn N p2 p3 (fun (v34 : (List Ae)) =>
         j4 (v34, v6)) N (v19, (IntKind.wrap .i64 (v6 + 1))))
        (j4 (v19, v6)))
      fun j19 =>
      AW ((decide (2 ≤ (IntKind.wrap .i64 (v6 - p1)))))
       (Bo N p3 (fun (v22 : (List Ae)) =>
        j19 v22) N ((v1.1.set ((v6).toNat) v15).set (((IntKind.wrap .i64 (v6 - 1))).toNat) v16, (IntKind.wrap .i64 (v6 - 1))))
       (j19 ((v1.1.set ((v6).toNat) v15).set (((IntKind.wrap .i64 (v6 - 1))).toNat) v16))))) N v1.2.1)
   (j1 v1.1)
def Cy (N : Nat) (p0 : List Ae) (p1 : Int) (p2 : Int) (p3 : (Ae × Ae) → Option Int) : Option (Bool × (List Ae)) :=
 Bv N p1 p2 p3 (fun (v2 : (List Ae)) =>
  some (false, v2)) N (p0, (IntKind.wrap .i64 (p1 + 1)), 0)
def BQ (N : Nat) (p1 : Int) (p4 : (Ae × Ae) → Option Int) (v5 : (List Ae) × Int × Int) (j7 : Int → Option (Int × (List Ae))) : Nat → Int → Option (Int × (List Ae))
 | 0, _ => none
 | n7 + 1, v7 =>
  Ba (fun (v9 : Bool) =>
   AW v9
    (BQ N p1 p4 v5 j7 n7 (IntKind.wrap .i64 (v7 + 1)))
    (j7 v7))
  fun j9 =>
  AW ((decide (v7 ≤ v5.2.2)))
   ((A9 v5.1 p1).bind fun v11 =>
   (A9 v5.1 v7).bind fun v12 =>
   (p4 ((v11, v12))).bind fun v13 =>
   j9 (!((decide (v13 < 0)))))
   (j9 false)
def BN (N : Nat) (p1 : Int) (p4 : (Ae × Ae) → Option Int) (v5 : (List Ae) × Int × Int) (v8 : Int) (j15 : Int → Option (Int × (List Ae))) : Nat → Int → Option (Int × (List Ae))
 | 0, _ => none
 | n15 + 1, v15 =>
  Ba (fun (v17 : Bool) =>
   AW v17
    (BN N p1 p4 v5 v8 j15 n15 (IntKind.wrap .i64 (v15 - 1)))
    (j15 v15))
  fun j17 =>
  AW ((decide (v8 ≤ v15)))
   ((A9 v5.1 p1).bind fun v19 =>
   (A9 v5.1 v15).bind fun v20 =>
   (p4 ((v19, v20))).bind fun v21 =>
   j17 (decide (v21 < 0)))
   (j17 false)
def BR (N : Nat) (p1 : Int) (p4 : (Ae × Ae) → Option Int) (j5 : ((List Ae) × Int) → Option (Int × (List Ae))) : Nat → ((List Ae) × Int × Int) → Option (Int × (List Ae))
 | 0, _ => none
 | n5 + 1, v5 =>
  BQ N p1 p4 v5 (fun (v8 : Int) =>
   BN N p1 p4 v5 v8 (fun (v16 : Int) =>
    AW ((decide (v16 < v8)))
     (j5 (v5.1, v8))
     ((A9 v5.1 v16).bind fun v24 =>
     (A9 v5.1 v8).bind fun v25 =>
     (A9 v5.1 v8).bind fun _ =>
     (A9 (v5.1.set ((v8).toNat) v24) v16).bind fun _ =>
     BR N p1 p4 j5 n5 ((v5.1.set ((v8).toNat) v24).set ((v16).toNat) v25, (IntKind.wrap .i64 (v8 + 1)), (IntKind.wrap .i64 (v16 - 1))))) N v5.2.2) N v5.2.1
def C1 (N : Nat) (p0 : List Ae) (p1 : Int) (p2 : Int) (p3 : Int) (p4 : (Ae × Ae) → Option Int) : Option (Int × (List Ae)) :=
 (A9 p0 p3).bind fun v1 =>
 (A9 p0 p1).bind fun v2 =>
 (A9 p0 p1).bind fun _ =>
 (A9 (p0.set ((p1).toNat) v1) p3).bind fun _ =>
 BR N p1 p4 (fun (v6 : (List Ae) × Int) =>
  some (v6.2, v6.1)) N ((p0.set ((p1).toNat) v1).set ((p3).toNat) v2, (IntKind.wrap .i64 (p1 + 1)), (IntKind.wrap .i64 (p2 - 1)))
def Cu (N : Nat) (p0 : List Ae) (p1 : Int) (p2 : Int) (p3 : Int) (p4 : (Ae × Ae) → Option Int) (v1 : Ae) (v2 : Ae) (j5 : Int → Option (Int × Bool × (List Ae))) : Nat → Int → Option (Int × Bool × (List Ae))
 | 0, _ => none
 | n5 + 1, v5 =>
  Ba (fun (v7 : Bool) =>
   AW v7
    (Cu N p0 p1 p2 p3 p4 v1 v2 j5 n5 (IntKind.wrap .i64 (v5 + 1)))
    (j5 v5))
  fun j7 =>
  AW ((decide (v5 ≤ (IntKind.wrap .i64 (p2 - 1)))))
   ((A9 ((p0.set ((p1).toNat) v1).set ((p3).toNat) v2) v5).bind fun v9 =>
   (A9 ((p0.set ((p1).toNat) v1).set ((p3).toNat) v2) p1).bind fun v10 =>
   (p4 ((v9, v10))).bind fun v11 =>
   j7 (decide (v11 < 0)))
   (j7 false)
def Cm (N : Nat) (p0 : List Ae) (p1 : Int) (p3 : Int) (p4 : (Ae × Ae) → Option Int) (v1 : Ae) (v2 : Ae) (v6 : Int) (j13 : Int → Option (Int × Bool × (List Ae))) : Nat → Int → Option (Int × Bool × (List Ae))
 | 0, _ => none
 | n13 + 1, v13 =>
  Ba (fun (v15 : Bool) =>
   AW v15
    (Cm N p0 p1 p3 p4 v1 v2 v6 j13 n13 (IntKind.wrap .i64 (v13 - 1)))
    (j13 v13))
  fun j15 =>
  AW ((decide (v6 ≤ v13)))
   ((A9 ((p0.set ((p1).toNat) v1).set ((p3).toNat) v2) v13).bind fun v17 =>
   (A9 ((p0.set ((p1).toNat) v1).set ((p3).toNat) v2) p1).bind fun v18 =>
   (p4 ((v17, v18))).bind fun v19 =>
   j15 (!((decide (v19 < 0)))))
   (j15 false)
def Cn (N : Nat) (p1 : Int) (p4 : (Ae × Ae) → Option Int) (v30 : (List Ae) × Int × Int) (j32 : Int → Option (Int × Bool × (List Ae))) : Nat → Int → Option (Int × Bool × (List Ae))
 | 0, _ => none
 | n32 + 1, v32 =>
  Ba (fun (v34 : Bool) =>
   AW v34
    (Cn N p1 p4 v30 j32 n32 (IntKind.wrap .i64 (v32 + 1)))
    (j32 v32))
  fun j34 =>
  AW ((decide (v32 ≤ v30.2.2)))
   ((A9 v30.1 v32).bind fun v36 =>
   (A9 v30.1 p1).bind fun v37 =>
   (p4 ((v36, v37))).bind fun v38 =>
   j34 (decide (v38 < 0)))
   (j34 false)
def Cl (N : Nat) (p1 : Int) (p4 : (Ae × Ae) → Option Int) (v30 : (List Ae) × Int × Int) (v33 : Int) (j40 : Int → Option (Int × Bool × (List Ae))) : Nat → Int → Option (Int × Bool × (List Ae))
 | 0, _ => none
 | n40 + 1, v40 =>
  Ba (fun (v42 : Bool) =>
   AW v42
    (Cl N p1 p4 v30 v33 j40 n40 (IntKind.wrap .i64 (v40 - 1)))
    (j40 v40))
  fun j42 =>
  AW ((decide (v33 ≤ v40)))
   ((A9 v30.1 v40).bind fun v44 =>
   (A9 v30.1 p1).bind fun v45 =>
   (p4 ((v44, v45))).bind fun v46 =>
   j42 (!((decide (v46 < 0)))))
   (j42 false)
def Cq (N : Nat) (p1 : Int) (p4 : (Ae × Ae) → Option Int) (j30 : ((List Ae) × Int) → Option (Int × Bool × (List Ae))) : Nat → ((List Ae) × Int × Int) → Option (Int × Bool × (List Ae))
 | 0, _ => none
 | n30 + 1, v30 =>
  Cn N p1 p4 v30 (fun (v33 : Int) =>
   Cl N p1 p4 v30 v33 (fun (v41 : Int) =>
    AW ((decide (v41 < v33)))
     (j30 (v30.1, v41))
     ((A9 v30.1 v41).bind fun v49 =>
     (A9 v30.1 v33).bind fun v50 =>
     (A9 v30.1 v33).bind fun _ =>
     (A9 (v30.1.set ((v33).toNat) v49) v41).bind fun _ =>
     Cq N p1 p4 j30 n30 ((v30.1.set ((v33).toNat) v49).set ((v41).toNat) v50, (IntKind.wrap .i64 (v33 + 1)), (IntKind.wrap .i64 (v41 - 1))))) N v30.2.2) N v30.2.1
def DF (N : Nat) (p0 : List Ae) (p1 : Int) (p2 : Int) (p3 : Int) (p4 : (Ae × Ae) → Option Int) : Option (Int × Bool × (List Ae)) :=
 (A9 p0 p3).bind fun v1 =>
 (A9 p0 p1).bind fun v2 =>
 (A9 p0 p1).bind fun _ =>
 (A9 (p0.set ((p1).toNat) v1) p3).bind fun _ =>
 Cu N p0 p1 p2 p3 p4 v1 v2 (fun (v6 : Int) =>
  Cm N p0 p1 p3 p4 v1 v2 v6 (fun (v14 : Int) =>
   AW ((decide (v14 < v6)))
    ((A9 ((p0.set ((p1).toNat) v1).set ((p3).toNat) v2) p1).bind fun v22 =>
    (A9 ((p0.set ((p1).toNat) v1).set ((p3).toNat) v2) v14).bind fun v23 =>
    (A9 ((p0.set ((p1).toNat) v1).set ((p3).toNat) v2) v14).bind fun _ =>
    (A9 (((p0.set ((p1).toNat) v1).set ((p3).toNat) v2).set ((v14).toNat) v22) p1).bind fun _ =>
    some (v14, true, (((p0.set ((p1).toNat) v1).set ((p3).toNat) v2).set ((v14).toNat) v22).set ((p1).toNat) v23))
    ((A9 ((p0.set ((p1).toNat) v1).set ((p3).toNat) v2) v14).bind fun v26 =>
    (A9 ((p0.set ((p1).toNat) v1).set ((p3).toNat) v2) v6).bind fun v27 =>
    (A9 ((p0.set ((p1).toNat) v1).set ((p3).toNat) v2) v6).bind fun _ =>
    (A9 (((p0.set ((p1).toNat) v1).set ((p3).toNat) v2).set ((v6).toNat) v26) v14).bind fun _ =>
    Cq N p1 p4 (fun (v31 : (List Ae) × Int) =>
     (A9 v31.1 p1).bind fun v53 =>
     (A9 v31.1 v31.2).bind fun v54 =>
     (A9 v31.1 v31.2).bind fun _ =>
     (A9 (v31.1.set ((v31.2).toNat) v53) p1).bind fun _ =>
     some (v31.2, false, (v31.1.set ((v31.2).toNat) v53).set ((p1).toNat) v54)) N ((((p0.set ((p1).toNat) v1).set ((p3).toNat) v2).set ((v6).toNat) v26).set ((v14).toNat) v27, (IntKind.wrap .i64 (v6 + 1)), (IntKind.wrap .i64 (v14 - 1))))) N (IntKind.wrap .i64 (p2 - 1))) N (IntKind.wrap .i64 (p1 + 1))
def Bq (N : Nat) (p4 : (Ae × Ae) → Option Int) (rc : (List Ae) → Int → Int → Int → ((Ae × Ae) → Option Int) → Option ((List Ae))) (j1 : Unit → Option ((List Ae))) : Nat → ((List Ae) × Int × Int × Int × Bool × Bool) → Option ((List Ae))
 | 0, _ => none
 | n1 + 1, v1 =>
  AW ((decide ((IntKind.wrap .i64 (v1.2.2.1 - v1.2.1)) ≤ 12)))
   ((C5 N v1.1 v1.2.1 v1.2.2.1 p4).bind fun v4 =>
   some v4)
   (AW ((v1.2.2.2.1 == 0))
    ((DO N v1.1 v1.2.1 v1.2.2.1 p4).bind fun v6 =>
    some v6)
    (Ba (fun (v7 : (List Ae) × Int) =>
     (Dk N v7.1 v1.2.1 v1.2.2.1 p4).bind fun v10 =>
     Ba (fun (v11 : (List Ae) × Int × Int) =>
      Ba (fun (v14 : (List Ae)) =>
       Ba (fun (v21 : Bool) =>
        AW v21
         ((C1 N v14 v1.2.1 v1.2.2.1 v11.2.1 p4).bind fun v27 =>
         Bq N p4 rc j1 n1 (v27.2, v27.1, v1.2.2.1, v7.2, v1.2.2.2.2.1, v1.2.2.2.2.2))
         ((DF N v14 v1.2.1 v1.2.2.1 v11.2.1 p4).bind fun v28 =>
         AW ((decide ((IntKind.wrap .i64 (v28.1 - v1.2.1)) < (IntKind.wrap .i64 (v1.2.2.1 - v28.1)))))
          ((rc v28.2.2 v1.2.1 v28.1 v7.2 p4).bind fun v30 =>
          Bq N p4 rc j1 n1 (v30, (IntKind.wrap .i64 (v28.1 + 1)), v1.2.2.1, v7.2, (decide ((IntKind.wrap .i64 (Int.tdiv ((IntKind.wrap .i64 (v1.2.2.1 - v1.2.1))) 8)) ≤ (IntKind.wrap .i64 (v28.1 - v1.2.1)))), v28.2.1))
          ((rc v28.2.2 ((IntKind.wrap .i64 (v28.1 + 1))) v1.2.2.1 v7.2 p4).bind fun v31 =>
          Bq N p4 rc j1 n1 (v31, v1.2.1, v28.1, v7.2, (decide ((IntKind.wrap .i64 (Int.tdiv ((IntKind.wrap .i64 (v1.2.2.1 - v1.2.1))) 8)) ≤ (IntKind.wrap .i64 (v1.2.2.1 - v28.1)))), v28.2.1))))
       fun j21 =>
       AW ((decide (0 < v1.2.1)))
        ((A9 v14 ((IntKind.wrap .i64 (v1.2.1 - 1)))).bind fun v23 =>
        (A9 v14 v11.2.1).bind fun v24 =>
        (p4 ((v23, v24))).bind fun v25 =>
        j21 (!((decide (v25 < 0)))))
        (j21 false))
      fun j14 =>
      Ba (fun (v15 : Bool) =>
       AW v15
        ((Cy N v11.1 v1.2.1 v1.2.2.1 p4).bind fun v19 =>
        AW v19.1
         (some v19.2)
         (j14 v19.2))
        (j14 v11.1))
      fun j15 =>
      AW v1.2.2.2.2.1
       (AW v1.2.2.2.2.2
        (j15 (v11.2.2 == 1))
        (j15 false))
       (j15 false))
     fun j11 =>
     AW ((v10.2 == 2))
      ((C9 N v7.1 v1.2.1 v1.2.2.1 p4).bind fun v13 =>
      j11 (v13, (IntKind.wrap .i64 ((IntKind.wrap .i64 (v1.2.2.1 - 1)) - (IntKind.wrap .i64 (v10.1 - v1.2.1)))), 1))
      (j11 (v7.1, v10.1, v10.2)))
    fun j7 =>
    AW ((!v1.2.2.2.2.1))
     ((C7 N v1.1 v1.2.1 v1.2.2.1 p4).bind fun v9 =>
     j7 (v9, (IntKind.wrap .i64 (v1.2.2.2.1 - 1))))
     (j7 (v1.1, v1.2.2.2.1))))
def DG (N : Nat) (rc : (List Ae) → Int → Int → Int → ((Ae × Ae) → Option Int) → Option ((List Ae))) (p0 : List Ae) (p1 : Int) (p2 : Int) (p3 : Int) (p4 : (Ae × Ae) → Option Int) : Option ((List Ae)) :=
 Bq N p4 rc (fun (_ : Unit) =>
  none) N (p0, p1, p2, p3, true, true)
def CP (N : Nat) : Nat → (List Ae) → Int → Int → Int → ((Ae × Ae) → Option Int) → Option ((List Ae))
 | 0, _, _, _, _, _ => none
 | k + 1, p0, p1, p2, p3, p4 => DG N (CP N k) p0 p1 p2 p3 p4
def EZ (N : Nat) (p0 : List Ae) (p1 : Int) (p2 : Int) (p3 : Int) (p4 : (Ae × Ae) → Option Int) : Option ((List Ae)) := CP N N p0 p1 p2 p3 p4
def CM (N : Nat) (p0 : List Ae) (p1 : (Ae × Ae) → Option Int) : Option ((List Ae)) :=
 (F3 N ((IntKind.wrap .u64 ((p0.length : Int))))).bind fun v1 =>
 (EZ N p0 0 ((p0.length : Int)) v1 p1).bind fun v2 =>
 some v2
def F4 (_ : Nat) (p0 : Int) : Option Bool :=
 some ((p0 != p0))
def GJ (N : Nat) (p0 : Int) (p1 : Int) : Option Int :=
 (F4 N p0).bind fun v1 =>
 (F4 N p1).bind fun v2 =>
 AW v1
  (AW v2
   (some 0)
   (some ((-1))))
  (AW v2
   (some 1)
   (AW ((decide (p0 < p1)))
    (some ((-1)))
    (AW ((decide (p1 < p0)))
     (some 1)
     (some 0))))
def DB (N : Nat) (p0 : List Int) (p1 : List Int) (j1 : Unit → Option Int) : Nat → Int → Option Int
 | 0, _ => none
 | n1 + 1, v1 =>
  AW ((decide (v1 < (p0.length : Int))))
   ((A9 p0 v1).bind fun v4 =>
   AW ((decide ((p1.length : Int) ≤ v1)))
    (some 1)
    ((A9 p1 v1).bind fun v6 =>
    (GJ N v4 v6).bind fun v7 =>
    AW ((v7 != 0))
     (some v7)
     (DB N p0 p1 j1 n1 (IntKind.wrap .i64 (v1 + 1)))))
   (j1 ())
def D5 (N : Nat) (p0 : List Int) (p1 : List Int) : Option Int :=
 DB N p0 p1 (fun (_ : Unit) =>
  AW ((decide ((p0.length : Int) < (p1.length : Int))))
   (some ((-1)))
   (some 0)) N 0
def E0 (_ : Nat) (p0 : Int) : Option Bool :=
 some ((p0 != p0))
def Ft (N : Nat) (p0 : Int) (p1 : Int) : Option Int :=
 (E0 N p0).bind fun v1 =>
 (E0 N p1).bind fun v2 =>
 AW v1
  (AW v2
   (some 0)
   (some ((-1))))
  (AW v2
   (some 1)
   (AW ((decide (p0 < p1)))
    (some ((-1)))
    (AW ((decide (p1 < p0)))
     (some 1)
     (some 0))))
def CD (N : Nat) (p0 : List Int) (p1 : List Int) (j1 : Unit → Option Int) : Nat → Int → Option Int
 | 0, _ => none
 | n1 + 1, v1 =>
  AW ((decide (v1 < (p0.length : Int))))
   ((A9 p0 v1).bind fun v4 =>
   AW ((decide ((p1.length : Int) ≤ v1)))
    (some 1)
    ((A9 p1 v1).bind fun v6 =>
    (Ft N v4 v6).bind fun v7 =>
    AW ((v7 != 0))
     (some v7)
     (CD N p0 p1 j1 n1 (IntKind.wrap .i64 (v1 + 1)))))
   (j1 ())
def DR (N : Nat) (p0 : List Int) (p1 : List Int) : Option Int :=
 CD N p0 p1 (fun (_ : Unit) =>
  AW ((decide ((p0.length : Int) < (p1.length : Int))))
   (some ((-1)))
   (some 0)) N 0
def F8 (N : Nat) (p0 : List Int) (j1 : Unit → Option Int) : Nat → Int → Option Int
 | 0, _ => none
 | n1 + 1, v1 =>
  AW ((decide (v1 < (p0.length : Int))))
   ((A9 p0 v1).bind fun v4 =>
   AW ((v4 != 0))
    (some v4)
    (F8 N p0 j1 n1 (IntKind.wrap .i64 (v1 + 1))))
   (j1 ())
def IH (N : Nat) (p0 : List Int) : Option Int :=
 F8 N p0 (fun (_ : Unit) =>
  some 0) N 0
def EN (N : Nat) (p0 : Ae) (p1 : Ae) : Option Int :=
 (D5 N p0.fBase p1.fBase).bind fun v1 =>
 (D5 N p0.fNext p1.fNext).bind fun v2 =>
 (DR N p0.fHeld p1.fHeld).bind fun v3 =>
 (IH N (([v1, v2, v3] : List Int))).bind fun v4 =>
 some v4
def Fc (N : Nat) (v10 : (List Ak) × (List Ae)) (j11 : ((List Ae) × (List (ByteArray × Bool))) → Option ((List Ae) × Int)) : Nat → ((List Ae) × (List (ByteArray × Bool)) × Int) → Option ((List Ae) × Int)
 | 0, _ => none
 | n11 + 1, v11 =>
  AW ((decide (v11.2.2 < (v10.2.length : Int))))
   (Ba (fun (v14 : (List Ae) × (List (ByteArray × Bool))) =>
    Fc N v10 j11 n11 (v14.1, v14.2, (IntKind.wrap .i64 (v11.2.2 + 1))))
   fun j14 =>
   (A9 v10.2 v11.2.2).bind fun v15 =>
   (G7 N v15).bind fun v16 =>
   AW ((!(((KQ v16 v11.2.1).getD false))))
    ((G7 N v15).bind fun v18 =>
    (Ef (v11.1.length + (([v15] : List Ae)).length ≤ D3)).bind fun _ =>
    j14 (v11.1 ++ (([v15] : List Ae)), LD v18 true v11.2.1))
    (j14 (v11.1, v11.2.1)))
   (j11 (v11.1, v11.2.1))
def Fn (N : Nat) (p0 : Ag) (j6 : ((List Ae)) → Option ((List Ae) × Int)) : Nat → ((List Ae) × (List (ByteArray × Bool)) × Int) → Option ((List Ae) × Int)
 | 0, _ => none
 | n6 + 1, v6 =>
  AW ((decide (v6.2.2 < (v6.1.length : Int))))
   ((A9 v6.1 v6.2.2).bind fun v9 =>
   (FE N p0 v9).bind fun v10 =>
   Fc N v10 (fun (v12 : (List Ae) × (List (ByteArray × Bool))) =>
    AW ((decide (20000 < (v12.1.length : Int))))
     (some (([] : List Ae), 3))
     (Fn N p0 j6 n6 (v12.1, v12.2, (IntKind.wrap .i64 (v6.2.2 + 1))))) N (v6.1, v6.2.1, 0))
   (j6 v6.1)
def Gx (N : Nat) (p0 : Ag) : Option ((List Ae) × Int) :=
 (zFS N p0).bind fun v1 =>
 Ba (fun (v2 : Bool) =>
  AW v2
   (some (([] : List Ae), v1.2.2))
   ((G7 N v1.1).bind fun v5 =>
   Fn N p0 (fun (v7 : (List Ae)) =>
    (CM N v7 ((fun (x : Ae × Ae) => EN N x.1 x.2))).bind fun v21 =>
    some (v21, 0)) N (([v1.1] : List Ae), LD v5 true (([] : List (ByteArray × Bool))), 0)))
 fun j2 =>
 AW ((v1.2.2 != 0))
  (j2 true)
  (j2 (!v1.2.1))
def EH (N : Nat) (p0 : Ag) (p1 : List Int) (j5 : ((List Ak)) → Option ((List Ak) × Int)) : Nat → ((List Int) × (List Int) × (List Int) × (List Ak) × Int) → Option ((List Ak) × Int)
 | 0, _ => none
 | n5 + 1, v5 =>
  AW ((decide (v5.2.2.2.2 < (p1.length : Int))))
   ((A9 p1 v5.2.2.2.2).bind fun v8 =>
   (FE N p0 ((Ae.mk v5.1 v5.2.1 v5.2.2.1))).bind fun v9 =>
   AW (((v9.1.length : Int) == 0))
    (j5 v5.2.2.2.1)
    ((Ef ((v9.1.length : Int) ≠ 0)).bind fun _ =>
    (A9 v9.1 ((Int.tmod ((IntKind.wrap .i64 v8)) ((v9.1.length : Int))))).bind fun v12 =>
    (Ef (v5.2.2.2.1.length + (([v12] : List Ak)).length ≤ D3)).bind fun _ =>
    (A9 v9.2 ((Int.tmod ((IntKind.wrap .i64 v8)) ((v9.1.length : Int))))).bind fun v14 =>
    EH N p0 p1 j5 n5 (v14.fBase, v14.fNext, v14.fHeld, v5.2.2.2.1 ++ (([v12] : List Ak)), (IntKind.wrap .i64 (v5.2.2.2.2 + 1)))))
   (j5 v5.2.2.2.1)
def FB (N : Nat) (p0 : Ag) (p1 : List Int) : Option ((List Ak) × Int) :=
 (zFS N p0).bind fun v1 =>
 Ba (fun (v2 : Bool) =>
  AW v2
   (some (([] : List Ak), v1.2.2))
   (EH N p0 p1 (fun (v6 : (List Ak)) =>
    some (v6, 0)) N (v1.1.fBase, v1.1.fNext, v1.1.fHeld, ([] : List Ak), 0)))
 fun j2 =>
 AW ((v1.2.2 != 0))
  (j2 true)
  (j2 (!v1.2.1))
def Fj (N : Nat) (p0 : Ag) (p2 : List Ak) (j4 : ((List Ae)) → Option ((List Ae) × Int × Int)) : Nat → ((List Ae) × Int) → Option ((List Ae) × Int × Int)
 | 0, _ => none
 | n4 + 1, v4 =>
  AW ((decide (v4.2 < (p2.length : Int))))
   ((A9 p2 v4.2).bind fun v7 =>
   (A9 v4.1 v4.2).bind fun v8 =>
   (FD N p0 v8 v7).bind fun v9 =>
   AW ((v9.2 != 0))
    (some (([] : List Ae), v4.2, v9.2))
    ((Ef (v4.1.length + (([v9.1] : List Ae)).length ≤ D3)).bind fun _ =>
    Fj N p0 p2 j4 n4 (v4.1 ++ (([v9.1] : List Ae)), (IntKind.wrap .i64 (v4.2 + 1)))))
   (j4 v4.1)
def HG (N : Nat) (p0 : Ag) (p1 : Ae) (p2 : List Ak) : Option ((List Ae) × Int × Int) :=
 (E3 N p0 p1).bind fun v1 =>
 AW ((v1 != 0))
  (some (([] : List Ae), 0, v1))
  ((Fd N p1).bind fun v3 =>
  Fj N p0 p2 (fun (v5 : (List Ae)) =>
   some (v5, (p2.length : Int), 0)) N (([v3] : List Ae), 0))
def Ge (N : Nat) (p0 : Ag) (p1 : List Ak) : Option ((List Ae) × Int × Int) :=
 (F6 N p0).bind fun v1 =>
 AW ((v1.2 != 0))
  (some (([] : List Ae), 0, v1.2))
  ((HG N p0 v1.1 p1).bind fun v3 =>
  some (v3.1, v3.2.1, v3.2.2))
def B1 (N : Nat) (p0 : List Ae) (p1 : (Ae × Ae) → Option Bool) (v2 : Int) (j11 : ((List Ae) × Int) → Option (Nat × (List Ae))) : Nat → ((List Ae) × Int × Int) → Option (Nat × (List Ae))
 | 0, _ => none
 | n11 + 1, v11 =>
  AW ((decide (v11.2.2 < ((((p0.length - (v2).toNat)) : Nat) : Int))))
   (Ba (fun (v14 : (List Ae) × Int) =>
    B1 N p0 p1 v2 j11 n11 (v14.1, v14.2, (IntKind.wrap .i64 (v11.2.2 + 1))))
   fun j14 =>
   (Ef (((v2).toNat) + ((p0.length - (v2).toNat)) ≤ v11.1.length)).bind fun _ =>
   (A9 (((v11.1.drop ((v2).toNat)).take ((p0.length - (v2).toNat)))) v11.2.2).bind fun v15 =>
   (A9 (((v11.1.drop ((v2).toNat)).take ((p0.length - (v2).toNat)))) ((IntKind.wrap .i64 (v11.2.2 - 1)))).bind fun v17 =>
   (p1 ((v15, v17))).bind fun v18 =>
   AW ((!v18))
    ((A9 (((v11.1.drop ((v2).toNat)).take ((p0.length - (v2).toNat)))) v11.2.2).bind fun v20 =>
    (A9 v11.1 v11.2.1).bind fun _ =>
    j14 (v11.1.set ((v11.2.1).toNat) v20, (IntKind.wrap .i64 (v11.2.1 + 1))))
    (j14 (v11.1, v11.2.1)))
   (j11 (v11.1, v11.2.1))
def B7 (N : Nat) (p0 : List Ae) (p1 : (Ae × Ae) → Option Bool) (j2 : Unit → Option (Nat × (List Ae))) : Nat → Int → Option (Nat × (List Ae))
 | 0, _ => none
 | n2 + 1, v2 =>
  AW ((decide (v2 < (p0.length : Int))))
   ((A9 p0 v2).bind fun v5 =>
   (A9 p0 ((IntKind.wrap .i64 (v2 - 1)))).bind fun v6 =>
   (p1 ((v5, v6))).bind fun v7 =>
   AW v7
    ((Ef ((0 : Int) ≤ v2 ∧ (v2).toNat ≤ p0.length ∧ p0.length ≤ p0.length)).bind fun _ =>
    B1 N p0 p1 v2 (fun (v12 : (List Ae) × Int) =>
     (Ef ((0 : Int) ≤ v12.2 ∧ (v12.2).toNat ≤ v12.1.length ∧ v12.1.length ≤ v12.1.length)).bind fun _ =>
     (Ef ((0 : Int) ≤ v12.2 ∧ 0 ≤ (v12.2).toNat ∧ (v12.2).toNat ≤ (HU v12.1 ((v12.2).toNat) (List.replicate ((v12.1.length - (v12.2).toNat)) ((Ae.mk (([] : List Int)) (([] : List Int)) (([] : List Int)))))).length)).bind fun _ =>
     some ((v12.2).toNat, HU v12.1 ((v12.2).toNat) (List.replicate ((v12.1.length - (v12.2).toNat)) ((Ae.mk (([] : List Int)) (([] : List Int)) (([] : List Int))))))) N (p0, v2, 1))
    (B7 N p0 p1 j2 n2 (IntKind.wrap .i64 (v2 + 1))))
   (j2 ())
def Dd (N : Nat) (p0 : List Ae) (p1 : (Ae × Ae) → Option Bool) : Option (Nat × (List Ae)) :=
 AW ((decide ((p0.length : Int) < 2)))
  (some (p0.length, p0))
  (B7 N p0 p1 (fun (_ : Unit) =>
   some (p0.length, p0)) N 1)
def F7 (N : Nat) (p0 : Ae) (p1 : Ae) : Option Bool :=
 (EN N p0 p1).bind fun v1 =>
 some ((v1 == 0))
def FN (N : Nat) (p0 : Ag) (v1 : (List Ae) × Int × Int) (j3 : ((List Ae)) → Option ((List Ae) × Int)) : Nat → ((List Ae) × Int) → Option ((List Ae) × Int)
 | 0, _ => none
 | n3 + 1, v3 =>
  AW ((decide (v3.2 < (v1.1.length : Int))))
   ((A9 v1.1 v3.2).bind fun v6 =>
   (Fz N p0 v6).bind fun v7 =>
   AW ((v7.2 != 0))
    (some (([] : List Ae), v7.2))
    ((Ef (v3.1.length + v7.1.length ≤ D3)).bind fun _ =>
    FN N p0 v1 j3 n3 (v3.1 ++ v7.1, (IntKind.wrap .i64 (v3.2 + 1)))))
   (j3 v3.1)
def Im (N : Nat) (p0 : Ag) (p1 : List Ak) : Option ((List Ae) × Int) :=
 (Ge N p0 p1).bind fun v1 =>
 AW ((v1.2.2 != 0))
  (some (([] : List Ae), v1.2.2))
  (FN N p0 v1 (fun (v4 : (List Ae)) =>
   (CM N v4 ((fun (x : Ae × Ae) => EN N x.1 x.2))).bind fun v10 =>
   (Dd N v10 ((fun (x : Ae × Ae) => F7 N x.1 x.2))).bind fun v11 =>
   (Ef (v11.1 ≤ v11.2.length)).bind fun _ =>
   some (v11.2.take v11.1, 0)) N (([] : List Ae), 0))
def EI (N : Nat) (p0 : Ag) (v1 : (List Ae) × Int × Int) (j3 : Unit → Option (Bool × Int)) : Nat → Int → Option (Bool × Int)
 | 0, _ => none
 | n3 + 1, v3 =>
  AW ((decide (v3 < (v1.1.length : Int))))
   ((A9 v1.1 v3).bind fun v6 =>
   (Fa N p0 v6).bind fun v7 =>
   Ba (fun (v8 : Bool) =>
    AW v8
     (some (false, v7.2))
     (EI N p0 v1 j3 n3 (IntKind.wrap .i64 (v3 + 1))))
   fun j8 =>
   AW ((v7.2 != 0))
    (j8 true)
    (j8 (!v7.1)))
   (j3 ())
def FF (N : Nat) (p0 : Ag) (p1 : List Ak) : Option (Bool × Int) :=
 (Ge N p0 p1).bind fun v1 =>
 AW ((v1.2.2 != 0))
  (some (false, v1.2.2))
  (EI N p0 v1 (fun (_ : Unit) =>
   some (true, 0)) N 0)
def Ev (N : Nat) : Option Bool :=
 (CO N false).bind fun v1 =>
 (Gx N v1).bind fun v2 =>
 (CO N true).bind fun v3 =>
 (Gx N v3).bind fun v4 =>
 (CO N false).bind fun v5 =>
 (FB N v5 (([1, 2, 3] : List Int))).bind fun v6 =>
 (CO N false).bind fun v7 =>
 (Im N v7 (([(Ak.mk 1 0 1)] : List Ak))).bind fun v8 =>
 (CO N false).bind fun v9 =>
 (FF N v9 (([(Ak.mk 1 0 1)] : List Ak))).bind fun v10 =>
 Ba (fun (v11 : Bool) =>
  some v11)
 fun j11 =>
 AW ((v2.2 == 0))
  (AW ((v4.2 == 0))
   (AW ((v6.2 == 0))
    (AW ((v8.2 == 0))
     (AW ((v10.2 == 0))
      (AW (((v2.1.length : Int) == 1))
       (AW (((v4.1.length : Int) == 4))
        (AW (((v6.1.length : Int) == 0))
         (AW (((v8.1.length : Int) == 2))
          (j11 (!v10.1))
          (j11 false))
         (j11 false))
        (j11 false))
       (j11 false))
      (j11 false))
     (j11 false))
    (j11 false))
   (j11 false))
  (j11 false)
def Dh (_ : Nat) (p0 : List Int) : Option ((List Int)) :=
 (Ef ((([] : List Int)).length + p0.length ≤ D3)).bind fun _ =>
 some ((([] : List Int)) ++ p0)
def Cr (N : Nat) (p0 : List (List Bool)) (p1 : Int) (p2 : Int) (j2 : Unit → Option Bool) : Nat → Int → Option Bool
 | 0, _ => none
 | n2 + 1, v2 =>
  AW ((decide (v2 < p1)))
   ((A9 p0 v2).bind fun v5 =>
   AW (((v5.length : Int) != p2))
    (some false)
    (Cr N p0 p1 p2 j2 n2 (IntKind.wrap .i64 (v2 + 1))))
   (j2 ())
def Dr (N : Nat) (p0 : List (List Bool)) (p1 : Int) (p2 : Int) : Option Bool :=
 AW (((p0.length : Int) != p1))
  (some false)
  (Cr N p0 p1 p2 (fun (_ : Unit) =>
   some true) N 0)
def BY (N : Nat) (p1 : AF) (j22 : Unit → Option Int) : Nat → Int → Option Int
 | 0, _ => none
 | n22 + 1, v22 =>
  AW ((decide (v22 < (p1.fRewrite.length : Int))))
   ((A9 p1.fRewrite v22).bind fun v25 =>
   (A9 v25 v22).bind fun v26 =>
   AW ((!v26))
    (some 1)
    (BY N p1 j22 n22 (IntKind.wrap .i64 (v22 + 1))))
   (j22 ())
def Em (N : Nat) (p0 : Ag) (p1 : AF) : Option Int :=
 Ba (fun (v1 : Bool) =>
  AW v1
   (some 1)
   (Ba (fun (v7 : Bool) =>
    AW v7
     (some 4)
     ((A9 p0.fVersions p1.fFrom).bind fun v12 =>
     (A9 p0.fVersions p1.fTo).bind fun v13 =>
     (Dr N p1.fOK v12 v13).bind fun v14 =>
     AW ((!v14))
      (some 6)
      (AW ((p1.fKind != 4))
       (AW (((p1.fRewrite.length : Int) != 0))
        (some 6)
        (some 0))
       ((A9 p0.fVersions p1.fFrom).bind fun v18 =>
       (A9 p0.fVersions p1.fFrom).bind fun v19 =>
       (Dr N p1.fRewrite v18 v19).bind fun v20 =>
       AW ((!v20))
        (some 6)
        (BY N p1 (fun (_ : Unit) =>
         some 0) N 0)))))
   fun j7 =>
   AW ((decide (p1.fFrom < 0)))
    (j7 true)
    (AW ((decide ((p0.fVersions.length : Int) ≤ p1.fFrom)))
     (j7 true)
     (AW ((decide (p1.fTo < 0)))
      (j7 true)
      (j7 (decide ((p0.fVersions.length : Int) ≤ p1.fTo)))))))
 fun j1 =>
 AW ((decide (p1.fKind < 1)))
  (j1 true)
  (AW ((decide (4 < p1.fKind)))
   (j1 true)
   (AW p1.fAware
    ((A6 N p1).bind fun v5 =>
    j1 v5)
    (j1 false)))
def Bg (N : Nat) (p0 : Ag) (j7 : Unit → Option Int) : Nat → Int → Option Int
 | 0, _ => none
 | n7 + 1, v7 =>
  AW ((decide (v7 < (p0.fVersions.length : Int))))
   ((A9 p0.fVersions v7).bind fun v10 =>
   Ba (fun (v11 : Bool) =>
    AW v11
     (some 7)
     (Bg N p0 j7 n7 (IntKind.wrap .i64 (v7 + 1))))
   fun j11 =>
   AW ((decide (v10 < 1)))
    (j11 true)
    (AW ((decide (6 < v10)))
     (j11 true)
     ((A9 p0.fNow v7).bind fun v14 =>
     AW ((decide (v14 < 0)))
      (j11 true)
      ((A9 p0.fNow v7).bind fun v16 =>
      AW ((decide (v10 ≤ v16)))
       (j11 true)
       ((A9 p0.fTarget v7).bind fun v18 =>
       AW ((decide (v18 < 0)))
        (j11 true)
        ((A9 p0.fTarget v7).bind fun v20 =>
        j11 (decide (v10 ≤ v20))))))))
   (j7 ())
def Bd (N : Nat) (p0 : Ag) (j22 : Unit → Option Int) : Nat → Int → Option Int
 | 0, _ => none
 | n22 + 1, v22 =>
  AW ((decide (v22 < (p0.fTables.length : Int))))
   ((A9 p0.fTables v22).bind fun v25 =>
   (Em N p0 v25).bind fun v26 =>
   AW ((v26 != 0))
    (some v26)
    (Bd N p0 j22 n22 (IntKind.wrap .i64 (v22 + 1))))
   (j22 ())
def Ct (N : Nat) (p0 : Ag) : Option Int :=
 Ba (fun (v1 : Bool) =>
  AW v1
   (some 3)
   (Ba (fun (v4 : Bool) =>
    AW v4
     (some 6)
     (Bg N p0 (fun (_ : Unit) =>
      Bd N p0 (fun (_ : Unit) =>
       some 0) N 0) N 0))
   fun j4 =>
   AW (((p0.fNow.length : Int) != (p0.fVersions.length : Int)))
    (j4 true)
    (j4 ((p0.fTarget.length : Int) != (p0.fVersions.length : Int)))))
 fun j1 =>
 AW ((decide (6 < (p0.fVersions.length : Int))))
  (j1 true)
  (j1 (decide (12 < (p0.fTables.length : Int))))
def Ca (N : Nat) (p0 : Ag) (j3 : ((List Int) × (List Int)) → Option (Ae × Int)) : Nat → ((List Int) × (List Int) × Int) → Option (Ae × Int)
 | 0, _ => none
 | n3 + 1, v3 =>
  AW ((decide (v3.2.2 < (p0.fVersions.length : Int))))
   ((A9 p0.fNow v3.2.2).bind fun v6 =>
   (Ef (v3.1.length + (([v6] : List Int)).length ≤ D3)).bind fun _ =>
   (Ef (v3.2.1.length + (([(-1)] : List Int)).length ≤ D3)).bind fun _ =>
   Ca N p0 j3 n3 (v3.1 ++ (([v6] : List Int)), v3.2.1 ++ (([(-1)] : List Int)), (IntKind.wrap .i64 (v3.2.2 + 1))))
   (j3 (v3.1, v3.2.1))
def Bh (N : Nat) (p0 : Ag) (j9 : ((List Int)) → Option (Ae × Int)) : Nat → ((List Int) × Int) → Option (Ae × Int)
 | 0, _ => none
 | n9 + 1, v9 =>
  AW ((decide (v9.2 < (p0.fTables.length : Int))))
   (Ba (fun (v12 : Int) =>
    (Ef (v9.1.length + (([v12] : List Int)).length ≤ D3)).bind fun _ =>
    Bh N p0 j9 n9 (v9.1 ++ (([v12] : List Int)), (IntKind.wrap .i64 (v9.2 + 1))))
   fun j12 =>
   (A9 p0.fTables v9.2).bind fun v13 =>
   (A6 N v13).bind fun v14 =>
   AW v14
    ((A9 p0.fTables v9.2).bind fun v16 =>
    (A9 p0.fNow v16.fFrom).bind fun v17 =>
    (Ef (0 ≤ v17)).bind fun _ =>
    j12 (CJ .u8 1 v17))
    (j12 0))
   (j9 v9.1)
def DI (N : Nat) (p0 : Ag) : Option (Ae × Int) :=
 (Ct N p0).bind fun v1 =>
 AW ((v1 != 0))
  (some ((Ae.mk (([] : List Int)) (([] : List Int)) (([] : List Int))), v1))
  (Ca N p0 (fun (v4 : (List Int) × (List Int)) =>
   Bh N p0 (fun (v10 : (List Int)) =>
    some ((Ae.mk v4.1 v4.2 v10), 0)) N (([] : List Int), 0)) N (([] : List Int), ([] : List Int), 0))
def Ec (_ : Nat) (p0 : Ae) : Option Ae :=
 (Ef ((([] : List Int)).length + p0.fBase.length ≤ D3)).bind fun _ =>
 (Ef ((([] : List Int)).length + p0.fNext.length ≤ D3)).bind fun _ =>
 (Ef ((([] : List Int)).length + p0.fHeld.length ≤ D3)).bind fun _ =>
 some ((Ae.mk ((([] : List Int)) ++ p0.fBase) ((([] : List Int)) ++ p0.fNext) ((([] : List Int)) ++ p0.fHeld)))
def CA (N : Nat) (p0 : Ae) (j1 : Int → Option ((List Ae))) : Nat → (Int × Int) → Option ((List Ae))
 | 0, _ => none
 | n1 + 1, v1 =>
  AW ((decide (v1.2 < (p0.fNext.length : Int))))
   (Ba (fun (v4 : Int) =>
    CA N p0 j1 n1 (v4, (IntKind.wrap .i64 (v1.2 + 1))))
   fun j4 =>
   (A9 p0.fNext v1.2).bind fun v5 =>
   AW ((decide (0 ≤ v5)))
    (j4 (IntKind.wrap .i64 (v1.1 + 1)))
    (j4 v1.1))
   (j1 v1.1)
def BS (N : Nat) (p0 : Ae) (v7 : (List Ae) × Int) (j12 : ((List Int)) → Option ((List Ae))) : Nat → ((List Int) × Int × Int) → Option ((List Ae))
 | 0, _ => none
 | n12 + 1, v12 =>
  AW ((decide (v12.2.2 < (p0.fNext.length : Int))))
   (Ba (fun (v15 : (List Int) × Int) =>
    BS N p0 v7 j12 n12 (v15.1, v15.2, (IntKind.wrap .i64 (v12.2.2 + 1))))
   fun j15 =>
   (A9 p0.fNext v12.2.2).bind fun v16 =>
   AW ((decide (v16 < 0)))
    (j15 (v12.1, v12.2.1))
    (Ba (fun (v18 : (List Int)) =>
     j15 (v18, (IntKind.wrap .i64 (v12.2.1 + 1))))
    fun j18 =>
    (Ef (0 ≤ v12.2.1)).bind fun _ =>
    AW (((Int.tmod ((En .i64 v7.2 v12.2.1)) 2) == 1))
     ((A9 v12.1 v12.2.2).bind fun _ =>
     j18 (v12.1.set ((v12.2.2).toNat) ((-1))))
     (j18 v12.1)))
   (j12 v12.1)
def Bz (N : Nat) (p0 : Ae) (v2 : Int) (j7 : ((List Ae)) → Option ((List Ae))) : Nat → ((List Ae) × Int) → Option ((List Ae))
 | 0, _ => none
 | n7 + 1, v7 =>
  (Ef (0 ≤ v2)).bind fun _ =>
  AW ((decide (v7.2 < (CJ .i64 1 v2))))
   ((Ec N p0).bind fun v11 =>
   BS N p0 v7 (fun (v13 : (List Int)) =>
    (Ef (v7.1.length + (([(Ae.mk v11.fBase v13 v11.fHeld)] : List Ae)).length ≤ D3)).bind fun _ =>
    Bz N p0 v2 j7 n7 (v7.1 ++ (([(Ae.mk v11.fBase v13 v11.fHeld)] : List Ae)), (IntKind.wrap .i64 (v7.2 + 1)))) N (v11.fNext, 0, 0))
   (j7 v7.1)
def Ee (N : Nat) (p0 : Ae) : Option ((List Ae)) :=
 CA N p0 (fun (v2 : Int) =>
  Bz N p0 v2 (fun (v8 : (List Ae)) =>
   some v8) N (([] : List Ae), 0)) N (0, 0)
def BT (_ : Nat) (p0 : Ae) (p1 : Int) : Option Int :=
 (A9 p0.fBase p1).bind fun v1 =>
 (Ef (0 ≤ v1)).bind fun _ =>
 Ba (fun (v3 : Int) =>
  some v3)
 fun j3 =>
 (A9 p0.fNext p1).bind fun v4 =>
 AW ((decide (0 ≤ v4)))
  ((A9 p0.fNext p1).bind fun v6 =>
  (Ef (0 ≤ v6)).bind fun _ =>
  j3 (Nf .u8 ((CJ .u8 1 v1)) ((CJ .u8 1 v6))))
  (j3 (CJ .u8 1 v1))
def Cs (_ : Nat) (p0 : Int) (p1 : Int) : Option Bool :=
 (Ef (0 ≤ p1)).bind fun _ =>
 some (((FI .u8 ((En .u8 p0 p1)) 1) == 1))
def Bj (N : Nat) (p0 : Ag) (p1 : Ae) (v1 : (List Av) × Int) (v4 : AF) (v10 : (List Av) × Int) (j17 : ((List Av) × Bool) → Option ((List Av))) : Nat → ((List Av) × Bool × Int) → Option ((List Av))
 | 0, _ => none
 | n17 + 1, v17 =>
  (A9 p0.fVersions v4.fTo).bind fun v19 =>
  AW ((decide (v17.2.2 < v19)))
   (Ba (fun (v21 : (List Av) × Bool) =>
    Bj N p0 p1 v1 v4 v10 j17 n17 (v21.1, v21.2, (IntKind.wrap .i64 (v17.2.2 + 1))))
   fun j21 =>
   (BT N p1 v4.fTo).bind fun v22 =>
   (Cs N v22 v17.2.2).bind fun v23 =>
   AW ((!v23))
    (j21 (v17.1, v17.2.1))
    (Ba (fun (v25 : Bool) =>
     Ba (fun (v29 : Bool) =>
      AW v29
       ((Ef (v17.1.length + (([(Av.mk v1.2 v10.2 v17.2.2)] : List Av)).length ≤ D3)).bind fun _ =>
       j21 (v17.1 ++ (([(Av.mk v1.2 v10.2 v17.2.2)] : List Av)), v25))
       (j21 (v17.1, v25)))
     fun j29 =>
     AW ((!v4.fAware))
      ((A9 v4.fOK v10.2).bind fun v31 =>
      (A9 v31 v17.2.2).bind fun v32 =>
      j29 (!v32))
      (j29 false))
    fun j25 =>
    AW v17.2.1
     (j25 true)
     ((A9 v4.fOK v10.2).bind fun v27 =>
     (A9 v27 v17.2.2).bind fun v28 =>
     j25 v28)))
   (j17 (v17.1, v17.2.1))
def BC (N : Nat) (p0 : Ag) (p1 : Ae) (v1 : (List Av) × Int) (v4 : AF) (v6 : Int) (j10 : ((List Av)) → Option ((List Av))) : Nat → ((List Av) × Int) → Option ((List Av))
 | 0, _ => none
 | n10 + 1, v10 =>
  (A9 p0.fVersions v4.fFrom).bind fun v12 =>
  AW ((decide (v10.2 < v12)))
   (Ba (fun (v14 : (List Av)) =>
    BC N p0 p1 v1 v4 v6 j10 n10 (v14, (IntKind.wrap .i64 (v10.2 + 1))))
   fun j14 =>
   (Cs N v6 v10.2).bind fun v15 =>
   AW ((!v15))
    (j14 v10.1)
    (Bj N p0 p1 v1 v4 v10 (fun (v18 : (List Av) × Bool) =>
     Ba (fun (v35 : Bool) =>
      AW v35
       ((Ef (v18.1.length + (([(Av.mk v1.2 v10.2 ((-1)))] : List Av)).length ≤ D3)).bind fun _ =>
       j14 (v18.1 ++ (([(Av.mk v1.2 v10.2 ((-1)))] : List Av))))
       (j14 v18.1))
     fun j35 =>
     AW v4.fAware
      (j35 (!v18.2))
      (j35 false)) N (v10.1, false, 0)))
   (j10 v10.1)
def CH (N : Nat) (p0 : Ag) (p1 : Ae) (j1 : ((List Av)) → Option ((List Av))) : Nat → ((List Av) × Int) → Option ((List Av))
 | 0, _ => none
 | n1 + 1, v1 =>
  AW ((decide (v1.2 < (p0.fTables.length : Int))))
   ((A9 p0.fTables v1.2).bind fun v4 =>
   (BT N p1 v4.fFrom).bind fun v5 =>
   Ba (fun (v6 : Int) =>
    BC N p0 p1 v1 v4 v6 (fun (v11 : (List Av)) =>
     CH N p0 p1 j1 n1 (v11, (IntKind.wrap .i64 (v1.2 + 1)))) N (v1.1, 0))
   fun j6 =>
   (A6 N v4).bind fun v7 =>
   AW v7
    ((A9 p1.fHeld v1.2).bind fun v9 =>
    j6 v9)
    (j6 v5))
   (j1 v1.1)
def Eo (N : Nat) (p0 : Ag) (p1 : Ae) : Option ((List Av)) :=
 CH N p0 p1 (fun (v2 : (List Av)) =>
  some v2) N (([] : List Av), 0)
def D6 (N : Nat) (p0 : Ag) (p1 : Ae) : Option Bool :=
 (Eo N p0 p1).bind fun v1 =>
 some (((v1.length : Int) == 0))
def B5 (N : Nat) (p0 : Ag) (v1 : (List Ae)) (j2 : Unit → Option Bool) : Nat → Int → Option Bool
 | 0, _ => none
 | n2 + 1, v2 =>
  AW ((decide (v2 < (v1.length : Int))))
   ((A9 v1 v2).bind fun v5 =>
   (D6 N p0 v5).bind fun v6 =>
   AW ((!v6))
    (some false)
    (B5 N p0 v1 j2 n2 (IntKind.wrap .i64 (v2 + 1))))
   (j2 ())
def CG (N : Nat) (p0 : Ag) (p1 : Ae) : Option Bool :=
 (Ee N p1).bind fun v1 =>
 B5 N p0 v1 (fun (_ : Unit) =>
  some true) N 0
def B8 (N : Nat) (p0 : Ag) (p1 : Ae) (j7 : Unit → Option Int) : Nat → Int → Option Int
 | 0, _ => none
 | n7 + 1, v7 =>
  AW ((decide (v7 < (p0.fVersions.length : Int))))
   (Ba (fun (v10 : Bool) =>
    AW v10
     (some 7)
     ((A9 p1.fBase v7).bind fun v21 =>
     (A9 p1.fNext v7).bind fun v22 =>
     AW ((v21 == v22))
      (some 1)
      (B8 N p0 p1 j7 n7 (IntKind.wrap .i64 (v7 + 1)))))
   fun j10 =>
   (A9 p1.fBase v7).bind fun v11 =>
   AW ((decide (v11 < 0)))
    (j10 true)
    ((A9 p1.fBase v7).bind fun v13 =>
    (A9 p0.fVersions v7).bind fun v14 =>
    AW ((decide (v14 ≤ v13)))
     (j10 true)
     ((A9 p1.fNext v7).bind fun v16 =>
     AW ((decide (v16 < (-1))))
      (j10 true)
      ((A9 p1.fNext v7).bind fun v18 =>
      (A9 p0.fVersions v7).bind fun v19 =>
      j10 (decide (v19 ≤ v18))))))
   (j7 ())
def BZ (N : Nat) (p0 : Ag) (p1 : Ae) (j24 : Unit → Option Int) : Nat → Int → Option Int
 | 0, _ => none
 | n24 + 1, v24 =>
  AW ((decide (v24 < (p0.fTables.length : Int))))
   ((A9 p0.fTables v24).bind fun v27 =>
   (A9 p0.fVersions v27.fFrom).bind fun v28 =>
   (Ef (0 ≤ v28)).bind fun _ =>
   Ba (fun (v30 : Bool) =>
    AW v30
     (some 1)
     (BZ N p0 p1 j24 n24 (IntKind.wrap .i64 (v24 + 1))))
   fun j30 =>
   (A6 N v27).bind fun v31 =>
   AW ((!v31))
    ((A9 p1.fHeld v24).bind fun v33 =>
    AW ((v33 != 0))
     (j30 true)
     ((A6 N v27).bind fun v35 =>
     AW v35
      ((A9 p1.fHeld v24).bind fun v37 =>
      AW (((Df .u8 v37 ((IntKind.wrap .u8 ((CJ .u8 1 v28) - 1)))) != 0))
       (j30 true)
       ((BT N p1 v27.fFrom).bind fun v39 =>
       (A9 p1.fHeld v24).bind fun v40 =>
       j30 ((Df .u8 v39 v40) != 0)))
      (j30 false)))
    ((A6 N v27).bind fun v41 =>
    AW v41
     ((A9 p1.fHeld v24).bind fun v43 =>
     AW (((Df .u8 v43 ((IntKind.wrap .u8 ((CJ .u8 1 v28) - 1)))) != 0))
      (j30 true)
      ((BT N p1 v27.fFrom).bind fun v45 =>
      (A9 p1.fHeld v24).bind fun v46 =>
      j30 ((Df .u8 v45 v46) != 0)))
     (j30 false)))
   (j24 ())
def El (N : Nat) (p0 : Ag) (p1 : Ae) : Option Int :=
 (Ct N p0).bind fun v1 =>
 AW ((v1 != 0))
  (some v1)
  (Ba (fun (v3 : Bool) =>
   AW v3
    (some 6)
    (B8 N p0 p1 (fun (_ : Unit) =>
     BZ N p0 p1 (fun (_ : Unit) =>
      some 0) N 0) N 0))
  fun j3 =>
  AW (((p1.fBase.length : Int) != (p0.fVersions.length : Int)))
   (j3 true)
   (AW (((p1.fNext.length : Int) != (p0.fVersions.length : Int)))
    (j3 true)
    (j3 ((p1.fHeld.length : Int) != (p0.fTables.length : Int)))))
def Er (_ : Nat) (p0 : Ak) : Option Bool :=
 Ba (fun (v1 : Bool) =>
  some v1)
 fun j1 =>
 AW ((decide (1 ≤ p0.fKind)))
  (AW ((decide (p0.fKind ≤ 4)))
   (AW ((decide (0 ≤ p0.fIndex)))
    (AW ((decide (0 ≤ p0.fVersion)))
     (AW ((p0.fKind == 1))
      (j1 true)
      (j1 (p0.fVersion == 0)))
     (j1 false))
    (j1 false))
   (j1 false))
  (j1 false)
def BX (N : Nat) (p0 : Ag) (p2 : Ak) (j12 : ((List Int)) → Option (Ae × Bool)) : Nat → ((List Int) × Int) → Option (Ae × Bool)
 | 0, _ => none
 | n12 + 1, v12 =>
  AW ((decide (v12.2 < (p0.fTables.length : Int))))
   (Ba (fun (v15 : (List Int)) =>
    BX N p0 p2 j12 n12 (v15, (IntKind.wrap .i64 (v12.2 + 1))))
   fun j15 =>
   Ba (fun (v16 : Bool) =>
    AW v16
     ((A9 v12.1 v12.2).bind fun v22 =>
     (Ef (0 ≤ p2.fVersion)).bind fun _ =>
     (A9 v12.1 v12.2).bind fun _ =>
     j15 (v12.1.set ((v12.2).toNat) ((Nf .u8 v22 ((CJ .u8 1 p2.fVersion))))))
     (j15 v12.1))
   fun j16 =>
   (A9 p0.fTables v12.2).bind fun v17 =>
   AW ((v17.fFrom == p2.fIndex))
    ((A9 p0.fTables v12.2).bind fun v19 =>
    (A6 N v19).bind fun v20 =>
    j16 v20)
    (j16 false))
   (j12 v12.1)
def BD (N : Nat) (p0 : Ag) (p1 : Ae) (p2 : Ak) (v32 : AF) (v35 : Int) (j38 : Unit → Option (Ae × Bool)) : Nat → Int → Option (Ae × Bool)
 | 0, _ => none
 | n38 + 1, v38 =>
  (A9 p0.fVersions v32.fFrom).bind fun v40 =>
  AW ((decide (v38 < v40)))
   (Ba (fun (v42 : Bool) =>
    Ba (fun (v47 : Bool) =>
     AW v47
      (some ((Ae.mk (([] : List Int)) (([] : List Int)) (([] : List Int))), false))
      (BD N p0 p1 p2 v32 v35 j38 n38 (IntKind.wrap .i64 (v38 + 1))))
    fun j47 =>
    AW v42
     (AW ((v32.fKind == 4))
      ((A9 v32.fRewrite v38).bind fun v50 =>
      (A9 p1.fBase v32.fFrom).bind fun v51 =>
      (A9 v50 v51).bind fun v52 =>
      j47 (!v52))
      (j47 false))
     (j47 false))
   fun j42 =>
   (A9 p1.fHeld p2.fIndex).bind fun v43 =>
   (Cs N v43 v38).bind fun v44 =>
   AW v44
    ((Cs N v35 v38).bind fun v46 =>
    j42 (!v46))
    (j42 false))
   (j38 ())
def Ci (N : Nat) (p0 : Ag) (p1 : Ae) (p2 : Ak) : Option (Ae × Bool) :=
 (Ef ((([] : List Int)).length + p1.fBase.length ≤ D3)).bind fun _ =>
 (Ef ((([] : List Int)).length + p1.fNext.length ≤ D3)).bind fun _ =>
 (Ef ((([] : List Int)).length + p1.fHeld.length ≤ D3)).bind fun _ =>
 Ba (fun (v4 : (List Int) × (List Int) × (List Int)) =>
  some ((Ae.mk v4.1 v4.2.1 v4.2.2), true))
 fun j4 =>
 AW ((p2.fKind == 1))
  (Ba (fun (v6 : Bool) =>
   AW v6
    (some ((Ae.mk (([] : List Int)) (([] : List Int)) (([] : List Int))), false))
    ((A9 ((([] : List Int)) ++ p1.fNext) p2.fIndex).bind fun _ =>
    BX N p0 p2 (fun (v13 : (List Int)) =>
     j4 ((([] : List Int)) ++ p1.fBase, ((([] : List Int)) ++ p1.fNext).set ((p2.fIndex).toNat) p2.fVersion, v13)) N ((([] : List Int)) ++ p1.fHeld, 0)))
  fun j6 =>
  (A9 p1.fNext p2.fIndex).bind fun v7 =>
  AW ((decide (0 ≤ v7)))
   (j6 true)
   ((A9 p1.fBase p2.fIndex).bind fun v9 =>
   j6 (p2.fVersion == v9)))
  (AW ((p2.fKind == 2))
   ((A9 p1.fNext p2.fIndex).bind fun v26 =>
   AW ((decide (v26 < 0)))
    (some ((Ae.mk (([] : List Int)) (([] : List Int)) (([] : List Int))), false))
    ((A9 p1.fNext p2.fIndex).bind fun v28 =>
    (A9 ((([] : List Int)) ++ p1.fBase) p2.fIndex).bind fun _ =>
    (A9 ((([] : List Int)) ++ p1.fNext) p2.fIndex).bind fun _ =>
    j4 (((([] : List Int)) ++ p1.fBase).set ((p2.fIndex).toNat) v28, ((([] : List Int)) ++ p1.fNext).set ((p2.fIndex).toNat) ((-1)), (([] : List Int)) ++ p1.fHeld)))
   (AW ((p2.fKind == 3))
    ((A9 p0.fTables p2.fIndex).bind fun v32 =>
    (A6 N v32).bind fun v33 =>
    AW ((!v33))
     (some ((Ae.mk (([] : List Int)) (([] : List Int)) (([] : List Int))), false))
     ((BT N p1 v32.fFrom).bind fun v35 =>
     (A9 p1.fHeld p2.fIndex).bind fun v36 =>
     AW ((v36 == v35))
      (some ((Ae.mk (([] : List Int)) (([] : List Int)) (([] : List Int))), false))
      (BD N p0 p1 p2 v32 v35 (fun (_ : Unit) =>
       (A9 ((([] : List Int)) ++ p1.fHeld) p2.fIndex).bind fun _ =>
       j4 ((([] : List Int)) ++ p1.fBase, (([] : List Int)) ++ p1.fNext, ((([] : List Int)) ++ p1.fHeld).set ((p2.fIndex).toNat) v35)) N 0)))
    ((A9 p1.fNext p2.fIndex).bind fun v55 =>
    AW ((decide (v55 < 0)))
     (some ((Ae.mk (([] : List Int)) (([] : List Int)) (([] : List Int))), false))
     ((A9 ((([] : List Int)) ++ p1.fNext) p2.fIndex).bind fun _ =>
     j4 ((([] : List Int)) ++ p1.fBase, ((([] : List Int)) ++ p1.fNext).set ((p2.fIndex).toNat) ((-1)), (([] : List Int)) ++ p1.fHeld)))))
def Ek (N : Nat) (p0 : Ag) (p1 : Ae) (p2 : Ak) : Option (Ae × Int) :=
 (El N p0 p1).bind fun v1 =>
 AW ((v1 != 0))
  (some ((Ae.mk (([] : List Int)) (([] : List Int)) (([] : List Int))), v1))
  ((Er N p2).bind fun v3 =>
  AW ((!v3))
   (some ((Ae.mk (([] : List Int)) (([] : List Int)) (([] : List Int))), 1))
   (Ba (fun (v5 : Bool) =>
    AW v5
     (some ((Ae.mk (([] : List Int)) (([] : List Int)) (([] : List Int))), 4))
     (Ba (fun (v11 : Bool) =>
      AW v11
       (some ((Ae.mk (([] : List Int)) (([] : List Int)) (([] : List Int))), 4))
       ((Ci N p0 p1 p2).bind fun v15 =>
       AW ((!v15.2))
        (some ((Ae.mk (([] : List Int)) (([] : List Int)) (([] : List Int))), 11))
        (some (v15.1, 0))))
     fun j11 =>
     AW ((p2.fKind == 1))
      ((A9 p0.fVersions p2.fIndex).bind fun v13 =>
      j11 (decide (v13 ≤ p2.fVersion)))
      (j11 false)))
   fun j5 =>
   AW ((p2.fKind == 3))
    (AW ((decide ((p0.fTables.length : Int) ≤ p2.fIndex)))
     (j5 true)
     (AW ((p2.fKind != 3))
      (j5 (decide ((p0.fVersions.length : Int) ≤ p2.fIndex)))
      (j5 false)))
    (AW ((p2.fKind != 3))
     (j5 (decide ((p0.fVersions.length : Int) ≤ p2.fIndex)))
     (j5 false))))
def B9 (N : Nat) (p0 : Ag) (p1 : Ae) (v1 : (List Ak) × Int) (v4 : (List Ak) × Int) (j7 : ((List Ak)) → Option ((List Ak))) : Nat → ((List Ak) × Int) → Option ((List Ak))
 | 0, _ => none
 | n7 + 1, v7 =>
  AW ((decide (v7.2 < 6)))
   (Ba (fun (v10 : (List Ak)) =>
    B9 N p0 p1 v1 v4 j7 n7 (v10, (IntKind.wrap .i64 (v7.2 + 1))))
   fun j10 =>
   (Ek N p0 p1 ((Ak.mk v1.2 v4.2 v7.2))).bind fun v11 =>
   AW ((v11.2 == 0))
    ((Ef (v7.1.length + (([(Ak.mk v1.2 v4.2 v7.2)] : List Ak)).length ≤ D3)).bind fun _ =>
    j10 (v7.1 ++ (([(Ak.mk v1.2 v4.2 v7.2)] : List Ak))))
    (j10 v7.1))
   (j7 v7.1)
def Cb (N : Nat) (p0 : Ag) (p1 : Ae) (v1 : (List Ak) × Int) (j4 : ((List Ak)) → Option ((List Ak))) : Nat → ((List Ak) × Int) → Option ((List Ak))
 | 0, _ => none
 | n4 + 1, v4 =>
  AW ((decide (v4.2 < (Q9 ((p0.fVersions.length : Int)) ((p0.fTables.length : Int))))))
   (B9 N p0 p1 v1 v4 (fun (v8 : (List Ak)) =>
    Cb N p0 p1 v1 j4 n4 (v8, (IntKind.wrap .i64 (v4.2 + 1)))) N (v4.1, 0))
   (j4 v4.1)
def Bs (N : Nat) (p0 : Ag) (p1 : Ae) (j1 : ((List Ak)) → Option ((List Ak))) : Nat → ((List Ak) × Int) → Option ((List Ak))
 | 0, _ => none
 | n1 + 1, v1 =>
  AW ((decide (v1.2 ≤ 3)))
   (Cb N p0 p1 v1 (fun (v5 : (List Ak)) =>
    Bs N p0 p1 j1 n1 (v5, (IntKind.wrap .i64 (v1.2 + 1)))) N (v1.1, 0))
   (j1 v1.1)
def Eu (N : Nat) (p0 : Ag) (p1 : Ae) : Option ((List Ak)) :=
 Bs N p0 p1 (fun (v2 : (List Ak)) =>
  some v2) N (([] : List Ak), 1)
def Da (N : Nat) (p0 : Ag) (p1 : Ae) (v1 : (List Ak)) (j2 : ((List Ak)) → Option ((List Ak))) : Nat → ((List Ak) × Int) → Option ((List Ak))
 | 0, _ => none
 | n2 + 1, v2 =>
  AW ((decide (v2.2 < (v1.length : Int))))
   (Ba (fun (v5 : (List Ak)) =>
    Da N p0 p1 v1 j2 n2 (v5, (IntKind.wrap .i64 (v2.2 + 1))))
   fun j5 =>
   (A9 v1 v2.2).bind fun v6 =>
   (Ci N p0 p1 v6).bind fun v7 =>
   (CG N p0 v7.1).bind fun v8 =>
   AW v8
    ((A9 v1 v2.2).bind fun v10 =>
    (Ef (v2.1.length + (([v10] : List Ak)).length ≤ D3)).bind fun _ =>
    j5 (v2.1 ++ (([v10] : List Ak))))
    (j5 v2.1))
   (j2 v2.1)
def EC (N : Nat) (p0 : Ag) (p1 : Ae) : Option ((List Ak)) :=
 (Eu N p0 p1).bind fun v1 =>
 Da N p0 p1 v1 (fun (v3 : (List Ak)) =>
  some v3) N (([] : List Ak), 0)
def Dc (N : Nat) (p0 : Ag) (p1 : List Int) (j5 : ((List Ak)) → Option ((List Ak) × Int)) : Nat → ((List Int) × (List Int) × (List Int) × (List Ak) × Int) → Option ((List Ak) × Int)
 | 0, _ => none
 | n5 + 1, v5 =>
  AW ((decide (v5.2.2.2.2 < (p1.length : Int))))
   ((EC N p0 ((Ae.mk v5.1 v5.2.1 v5.2.2.1))).bind fun v8 =>
   AW (((v8.length : Int) == 0))
    (j5 v5.2.2.2.1)
    ((A9 p1 v5.2.2.2.2).bind fun v10 =>
    (Ef ((v8.length : Int) ≠ 0)).bind fun _ =>
    (A9 v8 ((Int.tmod ((IntKind.wrap .i64 v10)) ((v8.length : Int))))).bind fun v12 =>
    (Ci N p0 ((Ae.mk v5.1 v5.2.1 v5.2.2.1)) v12).bind fun v13 =>
    (Ef (v5.2.2.2.1.length + (([v12] : List Ak)).length ≤ D3)).bind fun _ =>
    Dc N p0 p1 j5 n5 (v13.1.fBase, v13.1.fNext, v13.1.fHeld, v5.2.2.2.1 ++ (([v12] : List Ak)), (IntKind.wrap .i64 (v5.2.2.2.2 + 1)))))
   (j5 v5.2.2.2.1)
def Ez (N : Nat) (p0 : Ag) (p1 : List Int) : Option ((List Ak) × Int) :=
 (DI N p0).bind fun v1 =>
 AW ((v1.2 != 0))
  (some (([] : List Ak), v1.2))
  ((CG N p0 v1.1).bind fun v3 =>
  AW ((!v3))
   (some (([] : List Ak), 0))
   (Dc N p0 p1 (fun (v6 : (List Ak)) =>
    some (v6, 0)) N (v1.1.fBase, v1.1.fNext, v1.1.fHeld, ([] : List Ak), 0)))
def CN (N : Nat) (p0 : List Ak) (p1 : List Ak) (j2 : Unit → Option Bool) : Nat → Int → Option Bool
 | 0, _ => none
 | n2 + 1, v2 =>
  AW ((decide (v2 < (p0.length : Int))))
   ((A9 p0 v2).bind fun v5 =>
   (A9 p1 v2).bind fun v6 =>
   AW ((!((v5.fKind == v6.fKind) && ((v5.fIndex == v6.fIndex) && ((v5.fVersion == v6.fVersion) && true)))))
    (some false)
    (CN N p0 p1 j2 n2 (IntKind.wrap .i64 (v2 + 1))))
   (j2 ())
def EA (N : Nat) (p0 : List Ak) (p1 : List Ak) : Option Bool :=
 AW (((p0.length : Int) != (p1.length : Int)))
  (some false)
  (CN N p0 p1 (fun (_ : Unit) =>
   some true) N 0)
def Dz (N : Nat) (p0 : CI) (p1 : List Int) : Option Bool :=
 (EY N p0).bind fun v1 =>
 Ba (fun (v2 : Bool) =>
  AW v2
   ((Ev N).bind fun v7 =>
   some v7)
   ((Dh N p1).bind fun v8 =>
   (FB N v1.1 v8).bind fun v9 =>
   (Ez N v1.1 p1).bind fun v10 =>
   Ba (fun (v11 : Bool) =>
    AW v11
     (some false)
     ((DI N v1.1).bind fun v16 =>
     (FF N v1.1 v9.1).bind fun v17 =>
     Ba (fun (v18 : Bool) =>
      some v18)
     fun j18 =>
     AW ((v17.2 == 0))
      ((CG N v1.1 v16.1).bind fun v20 =>
      j18 (v17.1 == v20))
      (j18 false)))
   fun j11 =>
   AW ((v9.2 != 0))
    (j11 true)
    (AW ((v10.2 != 0))
     (j11 true)
     ((EA N v9.1 v10.1).bind fun v14 =>
     j11 (!v14)))))
 fun j2 =>
 (Ev N).bind fun v3 =>
 AW ((!v3))
  (j2 true)
  (AW ((!v1.2))
   (j2 true)
   (j2 (decide (10 < (p1.length : Int)))))
def NV {α : Type} (w : α → Prop) (xs : List α) : Prop := ∀ x, x ∈ xs → w x
def KC (n : Int) : Prop := (Lit.int .u8 n).wf = true
def UG (n : Int) : Prop := (Lit.int .u16 n).wf = true
def Hl (x : HM) : Prop := KC x.fKind ∧ KC x.fFrom ∧ KC x.fTo ∧ (fun _ => True) x.fAware ∧ UG x.fBad ∧ UG x.fLost ∧ True
def FL (x : CI) : Prop := (NV KC) x.fVersions ∧ (NV KC) x.fNow ∧ (NV KC) x.fTarget ∧ (NV Hl) x.fLinks ∧ True
end Go.Lift

