/- Lemmas for ReachAbortsSaid, which YtfnobkfnohhmmaaGreatFinW8 proves. -/
import Derived.Test.YtfnobkfnohhmmaaGreatLift17
import Derived.ProofKit
namespace Go.Lift
open List renaming mem_of_getElem? → lM
open Go.RowKit
variable {P : Program} {X : Ic} {ops : Array Oper}
def Oe : Bool × List T → D
 | (true, ts) => .e (.agg (ts.map .pure))
 | (false, ts) => .e (.one (.pure (ts.headD .nil0)))
def Uc : Bool × List T → Bool
 | (true, _) => true
 | (false, ts) => match ts with | [_] => true | _ => false
theorem U0 {w : World} {S : Nat → Prop} {G : Gh} {v : Value} {x : Bool × List T} (h : F7 P w G v (Oe x)) (hS : ∀ β, G.S β → S β) (hx : Uc x = true) : Vg w S v x := by
 obtain ⟨b, ts⟩ := x
 cases b with
 | false =>
  match ts, hx with
  | [t], _ => exact ⟨t, rfl, DC.mono (show DC w G.S v t from h) (fun _ _ => rfl) hS⟩
 | true =>
  obtain ⟨vs, e, hs, h⟩ := h
  refine ⟨vs, e, by simpa using hs, fun j t hj => ?_⟩
  have : EV P w G (AE vs j) (.pure t) := h j (.pure t) (by simp [hj])
  exact DC.mono this (fun _ _ => rfl) hS
theorem R4 {w : World} {S : Nat → Prop} {v : Value} {x : Bool × List T} (h : Vg w S v x) : F7 P w (G0 S) v (Oe x) := by
 obtain ⟨b, ts⟩ := x
 cases b with
 | false =>
  obtain ⟨t, rfl, h⟩ := h
  exact h
 | true =>
  obtain ⟨vs, e, hs, h⟩ := h
  refine ⟨vs, e, by simpa using hs, fun j c hj => ?_⟩
  rw [List.getElem?_map] at hj
  cases hx : ts[j]? with
  | none => rw [hx] at hj; cases hj
  | some t => rw [hx] at hj; cases hj; exact h j t hx
noncomputable def BM {α ρ : Type} (ea : α → List (Bool × List T)) (er : ρ → T) (q : α → Option ρ) : List (Bool × List T) → Option T := fun ar =>
 open Classical in if h : ∃ x r, ea x = ar ∧ q x = some r then some (er (Classical.choose (Classical.choose_spec h))) else none
theorem H0 {α ρ : Type} {ea : α → List (Bool × List T)} {er : ρ → T} {q : α → Option ρ} {ar : List (Bool × List T)} {t : T} (h : BM ea er q ar = some t) : ∃ x r, ar = ea x ∧ q x = some r ∧ t = er r := by
 unfold BM at h
 split at h
 ·rename_i hx
  cases h
  have := Classical.choose_spec (Classical.choose_spec hx)
  exact ⟨_, _, this.1.symm, this.2, rfl⟩
 ·cases h
theorem DZ {α ρ : Type} {ea : α → List (Bool × List T)} {er : ρ → T} {q : α → Option ρ} (inj : ∀ x y, ea x = ea y → x = y) {x : α} {r : ρ} (h : q x = some r) : BM ea er q (ea x) = some (er r) := by
 have hx : ∃ y s, ea y = ea x ∧ q y = some s := ⟨x, r, rfl, h⟩
 unfold BM
 rw [dif_pos hx]
 have h1 := Classical.choose_spec (Classical.choose_spec hx)
 have h2 := inj _ _ h1.1
 have h3 : q (Classical.choose hx) = some r := by rw [h2]; exact h
 exact congrArg (fun z => some (er z)) (Option.some.inj (h3.symm.trans h1.2)).symm
structure SR {α β : Type} (f : α → β) : Prop where
 inj : ∀ x y, f x = f y → x = y
def OQ {α : Type} (b : Bool) (e : α → List T) (x : α) : List (Bool × List T) := [(b, e x)]
def DW {α β : Type} (b : Bool) (e : α → List T) (b' : Bool) (e' : β → List T) (x : α × β) : List (Bool × List T) := [(b, e x.1), (b', e' x.2)]
theorem Ob {α : Type} (b : Bool) (e : α → List T) (h : SR e) : ∀ x y, OQ b e x = OQ b e y → x = y := by
 intro x y hxy
 simp only [OQ, List.cons.injEq, Prod.mk.injEq, true_and, and_true] at hxy
 exact h.inj _ _ hxy
theorem Ep {α β : Type} (b : Bool) (e : α → List T) (b' : Bool) (e' : β → List T) (h : SR e) (h' : SR e') : ∀ x y, DW b e b' e' x = DW b e b' e' y → x = y := by
 intro x y hxy
 simp only [DW, List.cons.injEq, Prod.mk.injEq, true_and, and_true] at hxy
 exact Prod.ext (h.inj _ _ hxy.1) (h'.inj _ _ hxy.2)
theorem J4 {α β : Type} {f : α → β} (h : ∀ x y, f x = f y → x = y) : ∀ (xs ys : List α), xs.map f = ys.map f → xs = ys
 | [], [], _ => rfl
 | [], _ :: _, e => by cases e
 | _ :: _, [], e => by cases e
 | x :: xs, y :: ys, e => by
  simp only [List.map_cons, List.cons.injEq] at e
  rw [h _ _ e.1, J4 h _ _ e.2]
theorem TS {f : FuncId} {g : List (Bool × List T) → Option T} (hf : AN P f = true) (hclo : ∀ ar t, g ar = some t → AB P f (ar.map Oe) [] (one t)) {w : World} {S : Nat → Prop} {v : Value} (h : F7 P w (G0 S) v (.e (.one (.fnc f)))) : F7 P w (G0 S) v (.e (.one (.clo g))) := by
 refine ⟨f, #[], h, ?_, ?_⟩
 ·unfold AN at hf
  split at hf
  ·rename_i fn h0
   simp only [Bool.and_eq_true, Bool.not_eq_true'] at hf
   exact ⟨fn, h0, hf.2, hf.1⟩
  ·cases hf
 ·intro w' S' _ _ hlt vs ar r0 hvs has hgr
  refine (hclo ar r0 hgr w' S' (vs ++ #[]) hlt (by simp [hvs]) ?_).mono ?_
  ·intro j d hj
   rw [List.getElem?_map] at hj
   cases hx0 : ar[j]? with
   | none => rw [hx0] at hj; cases hj
   | some y =>
    rw [hx0] at hj; cases hj
    rw [Array.append_empty]
    exact R4 (has j y hx0)
  ·rintro e w'' ⟨v, G', rfl, hbel, h1, h2, h3, _⟩
   exact ⟨v, G'.S, rfl, hbel, h1, h2, h3⟩
def VP (P : Program) : List D → List D → Prop
 | [], [] => True
 | a :: ar, b :: bs => (∀ (w : World) (S : Nat → Prop) (v : Value), F7 P w (G0 S) v a → F7 P w (G0 S) v b) ∧ VP P ar bs
 | _, _ => False
theorem VP.get : ∀ {ar bs : List D}, VP P ar bs → ar.length = bs.length ∧ ∀ (j : Nat) (b : D), bs[j]? = some b → ∃ a, ar[j]? = some a ∧ ∀ (w : World) (S : Nat → Prop) (v : Value), F7 P w (G0 S) v a → F7 P w (G0 S) v b
 | [], [], _ => ⟨rfl, fun j b h => by simp at h⟩
 | a :: ar, b :: bs, h => by
  obtain ⟨h1, h2⟩ := VP.get h.2
  refine ⟨by simp [h1], fun j c hj => ?_⟩
  cases j with
  | zero => simp at hj; subst hj; exact ⟨a, rfl, h.1⟩
  | succ j => obtain ⟨a', g1, g2⟩ := h2 j c (by simpa using hj); exact ⟨a', by simpa using g1, g2⟩
theorem AB.weak {f : FuncId} {ds ds' : List D} {rv : List (Nat × List (List T))} {res : D} (h : AB P f ds rv res) (hp : VP P ds' ds) : AB P f ds' rv res := by
 intro w S vs hS hlen hargs
 obtain ⟨h1, h2⟩ := hp.get
 refine h w S vs hS (by rw [hlen, h1]) fun j d hj => ?_
 obtain ⟨a, g1, g2⟩ := h2 j d hj
 exact g2 w S _ (hargs j a g1)
section run
variable {dr : Bool} {Q : St → Prop} {r i : Nat} {st : St} {log : List (Nat × CR)} {o : Oper} {gs : List (Operand × D)}
theorem PR {f : FuncId} (h : AN P f = true) : ∃ fn, P.funcs[f]? = some fn ∧ fn.body.isSome = true ∧ (fn.name == "runtime.NumGoroutine") = false := by
 unfold AN at h
 split at h
 ·rename_i fn hf
  simp only [Bool.and_eq_true, Bool.not_eq_true'] at h
  exact ⟨fn, hf, h.2, h.1⟩
 ·cases h
theorem Lx {f : FuncId} {s : Nat} {xs : List Operand} {capD : List D} (g : List (Bool × List T) → Option T) (hat : At st.env ops i X.n (.makeFunc (.func f) #[] xs.toArray) s gs)
  (hf : AN P f = true) (hl : xs.length = capD.length) (hx : E4 st.env (HX xs capD)) (hpub : capD.all Rc = true)
  (hclo : ∀ ar t, g ar = some t → AB P f (ar.map Oe ++ capD) [] (one t))
  (next : Bs P X ops dr Q r (i + 1) (CR.upd ⟨gs ++ HX xs capD, [], some s, some (.e (.one (.clo g))), [], []⟩ st) ((i, ⟨gs ++ HX xs capD, [], some s, some (.e (.one (.clo g))), [], []⟩) :: log)) : Bs P X ops dr Q (r + 1) i st log := by
 obtain ⟨o, ho, hop, hd, hn, hg, hgp⟩ := hat.out
 refine Bs.step next ⟨Aw.2 ⟨hgp, hx⟩, trivial, trivial⟩ (LR.value ho hg rfl hd.symm (Du hd hn) ?_)
 intro G st a w hs hpre
 have hx := (Aw.1 hpre.r).2
 refine ⟨.func (.func f) #[] (xs.toArray.map a.eval), w, G, ?_, hs, ?_⟩
 ·simp only [execOp, hop]
  exact Ar (a := .func (.func f) #[] (xs.toArray.map a.eval)) (w1 := w) (by simp [Instr.makeFunc]) rfl
 ·rintro d ⟨⟩
  refine ⟨⟨f, _, rfl, PR hf, ?_⟩, fun b hb => by cases hb⟩
  intro w' S' hS' hw' hlt vs ar r0 hvs has hgr
  refine (hclo ar r0 hgr w' S' (vs ++ xs.toArray.map a.eval) hlt (by simp [hvs, hl]) ?_).mono ?_
  ·intro j d hj
   by_cases hja : j < ar.length
   ·rw [List.getElem?_append_left (by simpa using hja), List.getElem?_map] at hj
    have hx0 : ar[j]? = some ar[j] := by simp [hja]
    rw [hx0] at hj; cases hj
    rw [C4 (by omega)]
    exact R4 (has j _ hx0)
   ·rw [List.getElem?_append_right (by simp; omega)] at hj
    simp only [List.length_map] at hj
    have hlt' := AS hj
    have hxj : xs[j - ar.length]? = some (xs[j - ar.length]'(by omega)) := by simp [show j - ar.length < xs.length from by omega]
    have hop' := H3 hl hx _ _ d hxj hj
    have hcell : AE (vs ++ xs.toArray.map a.eval) j = a.eval (xs[j - ar.length]'(by omega)) := by
     unfold AE
     rw [Array.getElem?_append_right (by omega), hvs]
     simp [show j - ar.length < xs.length from by omega]
    rw [hcell]
    have hcl : d.names = [] := by
     have := List.all_eq_true.1 hpub d (lM hj)
     simpa [Rc] using this
    exact ((hs.opd hop').mono (p := fun _ => False) (G' := G0 S') ⟨hS', fun _ h => h.elim, fun _ h => h.elim, fun _ h => h.elim⟩ hw' (fun b hb => by rw [hcl] at hb; cases hb))
  ·rintro e w'' ⟨v, G', rfl, hbel, h1, h2, h3, _⟩
   exact ⟨v, G'.S, rfl, hbel, h1, h2, h3⟩
theorem D0 {x : Operand} {g : List (Bool × List T) → Option T} {s : Nat} {xs : List Operand} {ds0 : List D} {ar : List (Bool × List T)} {r0 : T} {ts : Array TypeId} (hat : At st.env ops i X.n (.call ⟨.value x, xs.toArray, ts⟩) s gs)
  (hgx : opd st.env x = some (.e (.one (.clo g)))) (hl : xs.length = ds0.length) (hx : E4 st.env (HX xs ds0)) (hds : ds0.map D.nrm = ar.map Oe) (hpub : (ar.map Oe).all Rc = true) (hok : ar.all Uc = true) (hr : g ar = some r0)
  (next : Bs P X ops dr Q r (i + 1) (CR.upd ⟨gs ++ ((x, .e (.one (.clo g))) :: HX xs ds0), [], some s, some (one r0), [], []⟩ st) ((i, ⟨gs ++ ((x, .e (.one (.clo g))) :: HX xs ds0), [], some s, some (one r0), [], []⟩) :: log)) : Bs P X ops dr Q (r + 1) i st log := by
 obtain ⟨o, ho, hop, hd, hn, hg, hgp⟩ := hat.out
 refine Bs.step next ⟨Aw.2 ⟨hgp, hgx, hx⟩, trivial, trivial⟩ ?_
 intro st a w K Q' hs hpre hK
 obtain ⟨G, hs⟩ := hs
 obtain ⟨hgx, hx⟩ := (Aw.1 hpre.r).2
 have hw := hs.wanted hg (Aw.1 hpre.r).1
 unfold wpOp
 rw [ho]
 simp only [hw, if_true]
 refine .inl ?_
 unfold Oper.wp
 obtain ⟨f, caps, hv, ⟨fn, hf1, hf2, hf3⟩, hcall⟩ : Ks P w G.S (a.eval x) g := hs.opd hgx
 have hgood : AN P f = true := by unfold AN; rw [hf1]; simp [hf2]; simpa using hf3
 have hrun : (execOp a.eval o).run P w = .ok (.enter f (xs.toArray.map a.eval ++ caps)) w := by
  simp only [execOp, hop]
  simp only [resolve, hv, Deferred.ofValue]
  refine Ar (a := { target := .fn (.func f) caps, args := #[] ++ xs.toArray.map a.eval }) (w1 := w) rfl ?_
  simp only [invoke]
  rw [JZ hgood]; simp
 rw [hrun]
 show Calls P f (xs.toArray.map a.eval ++ caps) w _
 have hlen : xs.length = ar.length := by
  have := congrArg List.length hds
  simp at this; omega
 refine (hcall w G.S (fun _ h => h) (fun _ _ => rfl) hs.S_lt (xs.toArray.map a.eval) ar r0 (by simp [hlen]) ?_ hr).mono ?_
 ·intro j y hj
  have hlt := AS hj
  have hd0 : ds0[j]? = some (ds0[j]'(by omega)) := by simp [show j < ds0.length from by omega]
  have hnrm : (ds0[j]'(by omega)).nrm = Oe y := by
   have h1 : (ds0.map D.nrm)[j]? = (ar.map Oe)[j]? := by rw [hds]
   rw [List.getElem?_map, List.getElem?_map, hd0, hj] at h1
   simpa using h1
  have hxj : xs[j]? = some (xs[j]'(by omega)) := by simp [show j < xs.length from by omega]
  have hop' := H3 hl hx j _ _ hxj hd0
  have hcell : AE (xs.toArray.map a.eval) j = a.eval (xs[j]'(by omega)) := by simp [AE, show j < xs.length from by omega]
  rw [hcell]
  have hrd := (hs.opd hop').nrm
  rw [hnrm] at hrd
  exact U0 hrd (fun _ h => h) (List.all_eq_true.1 hok y (lM hj))
 ·rintro e w' ⟨v, S'', rfl, hbel, hS1, hS2, hres⟩
  show K (a.put o.dst v) w'
  rw [hd]
  let G2 : Gh := { G with S := S'' }
  have hsz := hbel.size
  have hle := hs.below.size
  have key : Dc P X G2 ⟨st.env, Bx st.bx []⟩ a w' := by
   refine hs.frame (fun c hc => hc) ⟨hS1, fun _ _ => rfl, fun _ _ => rfl, fun _ _ => rfl⟩ (fun β hβ => hbel.block β (hs.S_lt β hβ)) ?_ ?_ ?_ ?_ ?_ (hs.below.trans (.of (hbel.mono hle))) (fun _ _ => ⟨rfl, rfl, rfl⟩)
   ·intro c k hc
    exact .inl ⟨hc, fun β hr hβ => hbel.block β (hs.at_ok c k β hc hr hβ).2.1⟩
   ·intro c k β hc hr hβ
    have := hs.at_ok c k β hc hr hβ
    refine ⟨this.1, by omega, fun h => ?_⟩
    rcases hS2 β h with h | h
    ·exact this.2.2 h
    ·omega
   ·intro c c' k k' β hc hc' hr hr' hβ hβ'
    exact hs.at_inj c c' k k' β hc hc' hr hr' hβ hβ'
   ·intro β h
    rcases hS2 β h with h | h
    ·have := hs.S_lt β h; omega
    ·exact h.2
   ·intro β h
    rcases hS2 β h with h | h
    ·exact hs.S_src β h
    ·exact .inr (by omega)
  refine hK _ _ ⟨G2, key.put (some s) (some (one r0)) v (by intro t e; cases e; exact hn) ?_⟩
  rintro d ⟨⟩
  exact ⟨hres, fun b hb => by cases hb⟩
end run
end Go.Lift
namespace Go.Lift
open Go.RowKit Go.ChangeShapes Go.WideShapes
section
variable {P : Program}
def J5 (P : Program) : Nat → List Field → Nat → Bool
 | o, [], n => o == n
 | o, f :: fs, n => f.offset == o && J5 P (o + P.cellsOf f.type) fs n
def HN (P : Program) : Nat → TypeId → Bool
 | 0, _ => false
 | d + 1, t => match P.underlying t with
  | some (.int _) => true
  | some .bool => true
  | some .string => true
  | some (.slice e) => decide (0 < P.cellsOf e) && HN P d e
  | some (.struct fs) => J5 P 0 fs.toList (P.cellsOf t) && fs.toList.all fun f => HN P d f.type
  | _ => false
def SU (F : TypeId → List T → Prop) : List TypeId → List T → Prop
 | [], ts => ts = []
 | t :: tys, ts => ∃ a b, ts = a ++ b ∧ F t a ∧ SU F tys b
def IV (P : Program) : Nat → TypeId → List T → Prop
 | 0, _, _ => False
 | d + 1, t, ts => match P.underlying t with
  | some (.int k) => ∃ n, ts = [.val (.int k n)] ∧ (Lit.int k n).wf = true
  | some .bool => ∃ b, ts = [.val (.bool b)]
  | some .string => ∃ s, ts = [.val (.string s)]
  | some (.slice e) => ∃ rows, ts = [.sl rows] ∧ ∀ row, row ∈ rows → IV P d e row
  | some (.struct fs) => SU (IV P d) (fs.toList.map (·.type)) ts
  | _ => False
def GY (w : World) (S : Nat → Prop) : List Value → List T → Prop
 | [], [] => True
 | v :: vs, t :: ts => DC w S v t ∧ GY w S vs ts
 | _, _ => False
theorem GY.append {w : World} {S : Nat → Prop} : ∀ {a b : List Value} {x y : List T}, GY w S a x → GY w S b y → GY w S (a ++ b) (x ++ y)
 | [], _, [], _, _, h => h
 | _ :: _, _, _ :: _, _, h1, h2 => ⟨h1.1, GY.append h1.2 h2⟩
theorem GY.len {w : World} {S : Nat → Prop} : ∀ {a : List Value} {x : List T}, GY w S a x → a.length = x.length
 | [], [], _ => rfl
 | _ :: _, _ :: _, h => by simp [h.2.len]
theorem GY.get {w : World} {S : Nat → Prop} : ∀ {a : List Value} {x : List T}, GY w S a x → ∀ (j : Nat) (t : T), x[j]? = some t → ∃ v, a[j]? = some v ∧ DC w S v t
 | [], [], _, j, t, hj => by simp at hj
 | v :: _, _ :: _, h, 0, t, hj => by simp at hj; subst hj; exact ⟨v, rfl, h.1⟩
 | _ :: _, _ :: _, h, j + 1, t, hj => by
  obtain ⟨v, h1, h2⟩ := h.2.get j t (by simpa using hj)
  exact ⟨v, by simpa using h1, h2⟩
theorem K6 {α : Type} {p : Nat → α → Prop} : ∀ (n : Nat), (∀ i, i < n → ∃ x, p i x) → ∃ l : List α, l.length = n ∧ ∀ i x, l[i]? = some x → p i x
 | 0, _ => ⟨[], rfl, fun i x h => by simp at h⟩
 | n + 1, h => by
  obtain ⟨l, h1, h2⟩ := K6 n (fun i hi => h i (by omega))
  obtain ⟨x, hx⟩ := h n (by omega)
  refine ⟨l ++ [x], by simp [h1], fun i y hi => ?_⟩
  by_cases hlt : i < l.length
  ·rw [List.getElem?_append_left hlt] at hi; exact h2 i y hi
  ·rw [List.getElem?_append_right (by omega)] at hi
   have : i - l.length = 0 := by
    have := AS hi
    simp at this; omega
   rw [this] at hi
   simp at hi; subst hi
   have : i = n := by omega
   subst this; exact hx
theorem IQ {α : Type} {f : Nat → Option α} : ∀ {n : Nat} {l : List α}, (List.range n).mapM f = some l → l.length = n ∧ ∀ i, i < n → f i = l[i]? := by
 intro n l h
 have h1 := mapM_some_length h
 refine ⟨by simpa using h1, fun i hi => ?_⟩
 exact mapM_some_get h i i (by simp [hi])
theorem Oo {w : World} {b o : Nat} {v : Value} (h : w.cell? ⟨b, o, none⟩ = some v) : ∃ arr el fz, w.heap[b]? = some (.cells arr el fz) ∧ arr[o]? = some v := by
 unfold World.cell? at h
 split at h
 ·rename_i c el fz hc
  exact ⟨c, el, fz, hc, by simpa using h⟩
 ·cases h
theorem Tu {w : World} {b : Nat} {o : Obj} (h : w.heap[b]? = some o) : b < w.heap.size := by
 rcases Nat.lt_or_ge b w.heap.size with h1 | h1
 ·exact h1
 ·rw [Array.getElem?_eq_none h1] at h; cases h
abbrev Q8 (w : World) : Nat → Prop := fun β => β < w.heap.size
theorem Ni {H : Type} {enc : TypeId × Value → H} {w : World} {sp : Nat → Bool} {held : Bool} {n d : Nat} {cs : List Value}
  (ih : ∀ (t : TypeId) (cs : List Value) (x : DataW H × List MemPlace), HN P d t = true → DataW.trod enc P w 0 sp held n t cs = some x → ∃ ts, GY w (Q8 w) cs ts ∧ IV P d t ts) :
  ∀ (fs : List Field) (o : Nat), J5 P o fs cs.length = true → (fs.all fun f => HN P d f.type) = true →
   (∀ f, f ∈ fs → ∃ x, DataW.trod enc P w 0 sp held n f.type ((cs.drop f.offset).take (P.cellsOf f.type)) = some x) →
   ∃ ts, GY w (Q8 w) (cs.drop o) ts ∧ SU (IV P d) (fs.map (·.type)) ts
 | [], o, hc, _, _ => by
  simp only [J5, beq_iff_eq] at hc
  refine ⟨[], ?_, rfl⟩
  rw [List.drop_eq_nil_of_le (by omega)]; trivial
 | f :: fs, o, hc, hp, hx => by
  simp only [J5, Bool.and_eq_true, beq_iff_eq] at hc
  simp only [List.all_cons, Bool.and_eq_true] at hp
  obtain ⟨x, hx0⟩ := hx f (by simp)
  rw [hc.1] at hx0
  obtain ⟨ts, h1, h2⟩ := ih _ _ _ hp.1 hx0
  obtain ⟨us, h3, h4⟩ := Ni ih fs _ hc.2 hp.2 (fun g hg => hx g (by simp [hg]))
  refine ⟨ts ++ us, ?_, ⟨ts, us, rfl, h2, h4⟩⟩
  have : cs.drop o = (cs.drop o).take (P.cellsOf f.type) ++ cs.drop (o + P.cellsOf f.type) := by
   rw [← List.drop_drop, List.take_append_drop]
  rw [this]
  exact h1.append h3
theorem NL {H : Type} {enc : TypeId × Value → H} {w : World} {sp : Nat → Bool} {held : Bool} : ∀ (d fuel : Nat) (t : TypeId) (cs : List Value) (x : DataW H × List MemPlace), HN P d t = true → DataW.trod enc P w 0 sp held fuel t cs = some x → ∃ ts, GY w (Q8 w) cs ts ∧ IV P d t ts
 | 0, _, _, _, _, hp, _ => by cases hp
 | d + 1, fuel, t, cs, x, hp, hx => by
  unfold HN at hp
  unfold IV
  split at hp
  ·rename_i k hu
   obtain ⟨n, rfl, _, hw⟩ := DataW.trod_int hu hx
   exact ⟨[.val (.int k n)], ⟨.val _ rfl, trivial⟩, n, rfl, hw⟩
  ·rename_i hu
   obtain ⟨b, rfl, _⟩ := DataW.trod_bool hu hx
   exact ⟨[.val (.bool b)], ⟨.val _ rfl, trivial⟩, b, rfl⟩
  ·rename_i hu
   obtain ⟨b, rfl, _⟩ := DataW.trod_string hu hx
   exact ⟨[.val (.string b)], ⟨.val _ rfl, trivial⟩, b, rfl⟩
  ·rename_i e hu
   simp only [Bool.and_eq_true, decide_eq_true_eq] at hp
   rcases DataW.trod_slice hu hx with ⟨rfl, _⟩ | ⟨a, len, cap, elems, rest, n, rfl, rfl, _, _, hl, _, hlen, hel, _, _⟩
   ·exact ⟨[.sl []], ⟨.nil none 0, trivial⟩, [], rfl, fun row h => by cases h⟩
   ·have hrow : ∀ i, i < len → ∃ row, ∃ csi, w.cells? 0 (a.add (i * P.cellsOf e)) (P.cellsOf e) = some csi ∧ GY w (Q8 w) csi row ∧ IV P d e row := by
     intro i hi
     have h1 := hel i hi
     have h2 : elems[i]? = some (elems[i]'(by omega)) := by simp [show i < elems.length from by omega]
     rw [h2] at h1
     obtain ⟨csi, h3, h4⟩ := Option.bind_eq_some_iff.1 h1
     obtain ⟨row, h5, h6⟩ := NL d n e csi _ hp.2 h4
     exact ⟨row, csi, h3, h5, h6⟩
    obtain ⟨rows, hrl, hrows⟩ := K6 len hrow
    subst hrl
    refine ⟨[.sl rows], ⟨?_, trivial⟩, rows, rfl, fun row hm => ?_⟩
    ·cases hr0 : rows with
     | nil => exact .nil _ _
     | cons r0 rs0 =>
      rw [← hr0]
      have hpos : 0 < rows.length := by rw [hr0]; simp
      -- each cell
      have hcell : ∀ (i : Nat) (row : List T) (j : Nat) (u : T), rows[i]? = some row → row[j]? = some u → j < P.cellsOf e ∧ ∃ v, w.cell? ((a.add (i * P.cellsOf e)).add j) = some v ∧ DC w (Q8 w) v u := by
       intro i row j u hi hj
       obtain ⟨csi, h1, h2, _⟩ := hrows i row hi
       obtain ⟨v, h3, h4⟩ := h2.get j u hj
       unfold World.cells? at h1
       rw [if_pos (Nat.zero_le _)] at h1
       obtain ⟨h5, h6⟩ := IQ h1
       have hjl : j < P.cellsOf e := by have := AS h3; omega
       exact ⟨hjl, v, by rw [h6 j hjl, h3], h4⟩
      have hrlen : ∀ (i : Nat) (row : List T), rows[i]? = some row → row.length = P.cellsOf e := by
       intro i row hi
       obtain ⟨csi, h1, h2, _⟩ := hrows i row hi
       unfold World.cells? at h1
       rw [if_pos (Nat.zero_le _)] at h1
       obtain ⟨h5, _⟩ := IQ h1
       rw [← h2.len, h5]
      have hget : ∀ i (hi : i < rows.length), rows[i]? = some (rows[i]'hi) := fun i hi => by simp [hi]
      have hr00 := hget 0 hpos
      have hl0 := hrlen 0 _ hr00
      obtain ⟨_, v0, hv0, _⟩ := hcell 0 _ 0 ((rows[0]'hpos)[0]'(by omega)) hr00 (by simp)
      have hadd0 : (a.add (0 * P.cellsOf e)).add 0 = a := by simp [Addr.add]
      rw [hadd0] at hv0
      have hspot := World.cell?_spot hv0
      obtain ⟨β, off, spot⟩ := a
      simp only at hspot
      subst hspot
      obtain ⟨arr, el, fz, hb, _⟩ := Oo hv0
      have hadd : ∀ i j : Nat, ((⟨β, off, none⟩ : Addr).add (i * P.cellsOf e)).add j = ⟨β, off + i * P.cellsOf e + j, none⟩ := by
       intro i j
       unfold Addr.add
       split
       ·rename_i h1
        split
        ·rename_i h2; rw [h2]; simp
        ·rename_i h2; simp only [Addr.mk.injEq, true_and, and_true]; omega
       ·split <;> simp_all <;> omega
      have hat : ∀ (i : Nat) (row : List T) (j : Nat) (u : T), rows[i]? = some row → row[j]? = some u → off + i * P.cellsOf e + j < arr.size ∧ DC w (Q8 w) (AE arr (off + i * P.cellsOf e + j)) u := by
       intro i row j u hi hj
       obtain ⟨_, v, h1, h2⟩ := hcell i row j u hi hj
       rw [hadd] at h1
       obtain ⟨arr', el', fz', h3, h4⟩ := Oo h1
       rw [hb] at h3; cases h3
       have hlt : off + i * P.cellsOf e + j < arr.size := by
        rcases Nat.lt_or_ge (off + i * P.cellsOf e + j) arr.size with h | h
        ·exact h
        ·rw [Array.getElem?_eq_none h] at h4; cases h4
       refine ⟨hlt, ?_⟩
       have : AE arr (off + i * P.cellsOf e + j) = v := by unfold AE; rw [h4]; rfl
       rw [this]; exact h2
      refine .sl β off cap (P.cellsOf e) arr el fz rows (Tu hb) hb hl ?_ hrlen (fun i row j u hi hj => (hat i row j u hi hj).2)
      have hil := hget (rows.length - 1) (by omega)
      have hll := hrlen _ _ hil
      have h7 := (hat (rows.length - 1) _ (P.cellsOf e - 1) ((rows[rows.length - 1]'(by omega))[P.cellsOf e - 1]'(by omega)) hil (by simp)).1
      have h8 : rows.length * P.cellsOf e = (rows.length - 1) * P.cellsOf e + P.cellsOf e := by
       rw [← Nat.succ_mul]; congr 1; omega
      omega
    ·obtain ⟨i, hi⟩ := List.mem_iff_getElem?.1 hm
     obtain ⟨_, _, _, h⟩ := hrows i row hi
     exact h
  ·rename_i fs hu
   simp only [Bool.and_eq_true] at hp
   obtain ⟨xs, n, rfl, _, hcl, hxl, hf⟩ := DataW.trod_struct hu hx
   have := Ni (enc := enc) (sp := sp) (held := held) (cs := cs) (fun t cs x h1 h2 => NL d n t cs x h1 h2) fs.toList 0 (by rw [hcl]; exact hp.1) hp.2 (fun f hm => by
    obtain ⟨i, hi⟩ := List.mem_iff_getElem?.1 hm
    have hi' : fs[i]? = some f := by simpa using hi
    have h1 := hf i f hi'
    have hlt : i < fs.size := by
     have := AS hi
     simpa using this
    exact ⟨xs[i]'(by omega), by rw [h1]; simp [show i < xs.length from by omega]⟩)
   simpa using this
  ·cases hp
end
end Go.Lift
namespace Go.Lift
open Go.RowKit Go.ChangeShapes Go.WideShapes
section
variable {P : Program}
def TR (P : Program) (t : TypeId) (us : List T) : D := match P.underlying t with
 | some (.struct _) => .e (.agg (us.map .pure))
 | _ => .e (.one (.pure (us.headD .nil0)))
def Iy (P : Program) (d : Nat) : List TypeId → List D → Prop
 | [], [] => True
 | t :: ts, x :: xs => (∃ us, IV P d t us ∧ x = TR P t us) ∧ Iy P d ts xs
 | _, _ => False
theorem UJ {H : Type} {enc : TypeId × Value → H} {w : World} {d base : Nat} {t : TypeId} {v : Value} {x : DataW H} {ps : List MemPlace} (hp : HN P d t = true) (hval : Value.okWide P w .any base t v) (h : DataW.Trod enc P w 0 (fun _ => true) true t v x ps) :
  ∃ us, IV P d t us ∧ F7 P w (G0 (Q8 w)) v (TR P t us) := by
 obtain ⟨fuel, hf⟩ := h
 obtain ⟨us, h1, h2⟩ := NL d fuel t _ _ hp hf
 refine ⟨us, h2, ?_⟩
 have single : ∀ (v : Value), v.cells.toList = [v] → GY w (Q8 w) v.cells.toList us → F7 P w (G0 (Q8 w)) v (.e (.one (.pure (us.headD .nil0)))) := by
  intro v hv hr
  rw [hv] at hr
  match us, hr with
  | [u], hr => exact hr.1
 unfold TR
 cases d with
 | zero => cases hp
 | succ d =>
  unfold HN at hp
  split at hp
  ·rename_i k hu
   rw [hu]
   obtain ⟨n, rfl⟩ := okWide_int hu hval
   exact single _ rfl h1
  ·rename_i hu
   rw [hu]
   obtain ⟨n, rfl⟩ := okWide_bool hu hval
   exact single _ rfl h1
  ·rename_i hu
   rw [hu]
   obtain ⟨n, rfl⟩ := okWide_string hu hval
   exact single _ rfl h1
  ·rename_i e hu
   rw [hu]
   obtain ⟨a, len, cap, rfl⟩ := okWide_slice hu hval
   exact single _ rfl h1
  ·rename_i fs hu
   rw [hu]
   simp only [Value.okWide, hu] at hval
   obtain ⟨cs, rfl, _, _⟩ := hval
   have h1 : GY w (Q8 w) cs.toList us := h1
   refine ⟨cs, rfl, by simpa using h1.len, fun j c hj => ?_⟩
   rw [List.getElem?_map] at hj
   cases hx : us[j]? with
   | none => rw [hx] at hj; cases hj
   | some u =>
    rw [hx] at hj; cases hj
    obtain ⟨v, h3, h4⟩ := h1.get j u hx
    have : AE cs j = v := by unfold AE; rw [show cs[j]? = some v from by simpa using h3]; rfl
    rw [this]; exact h4
  ·cases hp
theorem Qv {H : Type} {enc : TypeId × Value → H} {w : World} {d base : Nat} : ∀ {ts : List TypeId} {vs : List Value} {ds : List (DataW H)} {ps : List MemPlace}, (ts.all (HN P d)) = true → (∀ (j : Nat) t v, ts[j]? = some t → vs[j]? = some v → Value.okWide P w .any base t v) →
  DataW.TrodAll enc P w 0 (fun _ => true) true ts vs ds ps → ∃ Ds, Iy P d ts Ds ∧ vs.length = Ds.length ∧ ds.length = ts.length ∧ ∀ (j : Nat) (x : D), Ds[j]? = some x → ∃ v, vs[j]? = some v ∧ F7 P w (G0 (Q8 w)) v x
 | [], [], [], _, _, _, _ => ⟨[], trivial, rfl, rfl, fun j x h => by simp at h⟩
 | t :: ts, v :: vs, x :: xs, _, hp, hval, h => by
  obtain ⟨p, q, h1, h2, _⟩ := h
  simp only [List.all_cons, Bool.and_eq_true] at hp
  obtain ⟨us, h3, h4⟩ := UJ hp.1 (hval 0 t v rfl rfl) h1
  obtain ⟨Ds, h5, h6, h7, h8⟩ := Qv hp.2 (fun j t v hj hv => hval (j + 1) t v (by simpa using hj) (by simpa using hv)) h2
  refine ⟨TR P t us :: Ds, ⟨⟨us, h3, rfl⟩, h5⟩, by simp [h6], by simp [h7], fun j y hj => ?_⟩
  cases j with
  | zero => simp at hj; subst hj; exact ⟨v, rfl, h4⟩
  | succ j =>
   obtain ⟨v', g1, g2⟩ := h8 j y (by simpa using hj)
   exact ⟨v', by simpa using g1, g2⟩
 | [], [], _ :: _, _, _, _, h => h.elim
 | [], _ :: _, _, _, _, _, h => by cases ‹List (DataW H)› <;> exact h.elim
 | _ :: _, [], _, _, _, _, h => by cases ‹List (DataW H)› <;> exact h.elim
 | _ :: _, _ :: _, [], _, _, _, h => h.elim
theorem Ju {H : Type} {enc : TypeId × Value → H} (hl : laidOutB P = true) {W W' : World} (hb : Below W.heap.size W W') : ∀ {ts : List TypeId} {vs : List Value} {ds : List (DataW H)} {ps : List MemPlace}, (ts.all fun t => P.readableRec t && decide (t < P.types.size)) = true →
  DataW.TrodAll enc P W 0 (fun _ => true) true ts vs ds ps → (∀ x ∈ ps, x.block < W.heap.size) → DataW.TrodAll enc P W' 0 (fun b => decide (b < W.heap.size)) true ts vs ds ps
 | [], [], [], _, _, h, _ => h
 | t :: ts, v :: vs, x :: xs, _, hr, h, hlt => by
  obtain ⟨p, q, h1, h2, rfl⟩ := h
  simp only [List.all_cons, Bool.and_eq_true, decide_eq_true_eq] at hr
  refine ⟨p, q, Below.trod hl hr.1.1 hr.1.2 h1 hb (fun y hy => hlt y (by simp [hy])), Ju hl hb (by simpa using hr.2) h2 (fun y hy => hlt y (by simp [hy])), rfl⟩
 | [], [], _ :: _, _, _, h, _ => h.elim
 | [], _ :: _, _, _, _, h, _ => by cases ‹List (DataW H)› <;> exact h.elim
 | _ :: _, [], _, _, _, h, _ => by cases ‹List (DataW H)› <;> exact h.elim
 | _ :: _, _ :: _, [], _, _, h, _ => h.elim
theorem PA {H : Type} {enc : TypeId × Value → H} {C : Checked} {os : Os} {f : FuncId} {fn : Func} {s : ChangeSpec} {conds : List PathCond} {tb : TypeId} {d : Nat}
  (own : ownKnob C.prog.godebug = none) (started : os.Started) (noInit : C.prog.inits.idxOf? f = none) (hfn : C.prog.funcs[f]? = some fn)
  (witness : ∃ (w : World) (tape : Tape) (i : Input), w.os = os ∧ (w.forCall tape i).Shaped C.prog ∧ i.vars = [] ∧ Input.okWide C.prog (w.forCall tape i) .any w.heap.size f i ∧
   s.pre6 enc C.prog fn conds false (w.forCall tape i).memory i.args ∧ ({} : Assume).holds C.prog (lone (Frame.enter C.prog f i.args .normal) [] (w.forCall tape i)))
  (hv : s.vars = []) (hs : ∀ ds : List (DataW H), ds.length = fn.params.toList.length → s.fn H (ds ++ []) = { results := [.lit (.bool true)], args := ds })
  (hres : fn.resultTypes = #[tb]) (htb : C.prog.underlying tb = some .bool) (hl : laidOutB C.prog = true)
  (hread : (fn.params.toList.all fun t => C.prog.readableRec t && decide (t < C.prog.types.size)) = true) (hplain : (fn.params.toList.all (HN C.prog d)) = true)
  (law : ∀ Ds, Iy C.prog d fn.params.toList Ds → AB C.prog f Ds [] (.e (.one (.pure (.val (.bool true)))))) :
  ReturnsInHanded {} C os f .any (s.pre6 enc C.prog fn conds false) (s.post enc C.prog fn false true false false) := by
 refine returnsInHanded_of_change own started noInit hfn witness ?_
 intro W base args ds gs before hval hW _ _
 have hW' := hW
 obtain ⟨p, q, hA, hV, rfl, _, _⟩ := hW
 rw [hv] at hV
 obtain ⟨rfl, rfl⟩ := trodVars_none hV
 obtain ⟨Ds, h1, h2, h3, h4⟩ := Qv hplain (fun j t v hj hvj => hval j t v (by simpa using hj) (by simpa using hvj)) hA
 have hlt : ∀ x ∈ p, x.block < W.heap.size := fun x hx => hW'.lt x (by simp [hx])
 refine (law Ds h1 W (Q8 W) args (fun β h => h) (by simpa using h2) ?_).mono ?_
 ·intro j x hj
  obtain ⟨v, g1, g2⟩ := h4 j x hj
  have : AE args j = v := by unfold AE; rw [show args[j]? = some v from by simpa using g1]; rfl
  rw [this]; exact g2
 ·rintro e W' ⟨v, G', rfl, hb, _, _, hr, _⟩
  have hvb : v = .bool true := by
   have h5 : DC W' G'.S v (.val (.bool true)) := hr
   cases h5; rfl
  subst hvb
  refine ⟨_, rfl, ds, [], p ++ [], [], p, [], hW', ?_, ?_, ?_, hb.frame _, fun h => by cases h⟩
  ·rw [hs ds h3, hres]
   exact trodAll_mk1 (shut_bool htb true)
  ·rw [hs ds h3]
   exact Ju hl hb hread hA hlt
  ·rw [hs ds h3, hv]
   rfl
end
end Go.Lift
namespace Go.Lift
open Go.RowKit
section
variable {P : Program}
def QW {α : Type} (P : Program) (t : TypeId) (e : α → List T) (W : α → Prop) : Prop := ∀ (d : Nat) (ts : List T), IV P d t ts → ∃ x, ts = e x ∧ W x
theorem Qs {t : TypeId} {k : IntKind} {e : Int → List T} (h : Ly P t k = true) (he : ∀ n, e n = [.val (.int k n)]) : QW P t e (fun n => (Lit.int k n).wf = true) := by
 intro d ts hf
 cases d with
 | zero => exact hf.elim
 | succ d =>
  unfold Ly at h
  unfold IV at hf
  split at h
  ·rename_i k' hu
   rw [hu] at hf
   obtain ⟨n, rfl, hw⟩ := hf
   have : k' = k := by simpa using h
   subst this
   exact ⟨n, (he n).symm, hw⟩
  ·cases h
theorem R5 {t : TypeId} {e : Bool → List T} (h : T6 P t = true) (he : ∀ n, e n = [.val (.bool n)]) : QW P t e (fun _ => True) := by
 intro d ts hf
 cases d with
 | zero => exact hf.elim
 | succ d =>
  unfold T6 at h
  unfold IV at hf
  split at h
  ·rename_i hu
   rw [hu] at hf
   obtain ⟨n, rfl⟩ := hf
   exact ⟨n, (he n).symm, trivial⟩
  ·cases h
theorem MA {α : Type} {e : α → List T} {W : α → Prop} : ∀ (rows : List (List T)), (∀ row, row ∈ rows → ∃ x, row = e x ∧ W x) → ∃ xs : List α, rows = xs.map e ∧ ∀ x, x ∈ xs → W x
 | [], _ => ⟨[], rfl, fun x h => by cases h⟩
 | r :: rows, h => by
  obtain ⟨x, rfl, hx⟩ := h r (by simp)
  obtain ⟨xs, rfl, hxs⟩ := MA rows (fun row hr => h row (by simp [hr]))
  exact ⟨x :: xs, rfl, fun y hy => by
   rcases List.mem_cons.1 hy with e | e
   ·subst e; exact hx
   ·exact hxs y e⟩
theorem Nh {α : Type} {t el : TypeId} {e : α → List T} {W : α → Prop} {e2 : List α → List T} (h : sliceB P t el = true) (he : QW P el e W) (h2 : ∀ xs, e2 xs = [.sl (xs.map e)]) : QW P t e2 (fun xs => ∀ x, x ∈ xs → W x) := by
 intro d ts hf
 cases d with
 | zero => exact hf.elim
 | succ d =>
  unfold sliceB at h
  unfold IV at hf
  split at h
  ·rename_i e' hu
   rw [hu] at hf
   obtain ⟨rows, rfl, hr⟩ := hf
   have : e' = el := by simpa using h
   subst this
   obtain ⟨xs, rfl, hxs⟩ := MA rows (fun row hm => he d row (hr row hm))
   exact ⟨xs, (h2 xs).symm, hxs⟩
  ·cases h
def GP (P : Program) (t : TypeId) : Option (List TypeId) := match P.underlying t with | some (.struct fs) => some (fs.toList.map (·.type)) | _ => none
theorem LX {t : TypeId} {tys : List TypeId} (h : GP P t = some tys) {d : Nat} {ts : List T} (hf : IV P d t ts) : ∃ d', SU (IV P d') tys ts := by
 cases d with
 | zero => exact hf.elim
 | succ d =>
  unfold GP at h
  unfold IV at hf
  split at h
  ·rename_i fs hu
   cases h
   rw [hu] at hf
   exact ⟨d, hf⟩
  ·cases h
theorem PG {t : TypeId} {tys : List TypeId} (h : GP P t = some tys) (us : List T) : TR P t us = .e (.agg (us.map .pure)) := by
 unfold GP at h
 unfold TR
 revert h
 cases P.underlying t with
 | none => intro h; cases h
 | some k => cases k <;> intro h <;> first | rfl | cases h
theorem P7 {t : TypeId} (h : GP P t = none) (us : List T) : TR P t us = .e (.one (.pure (us.headD .nil0))) := by
 unfold GP at h
 unfold TR
 revert h
 cases P.underlying t with
 | none => intro _; rfl
 | some k => cases k <;> intro h <;> first | rfl | cases h
theorem Ij {d : Nat} {t : TypeId} {ts : List TypeId} {Ds : List D} (h : Iy P d (t :: ts) Ds) : ∃ us xs, Ds = TR P t us :: xs ∧ IV P d t us ∧ Iy P d ts xs := by
 cases Ds with
 | nil => exact h.elim
 | cons x xs => obtain ⟨⟨us, h1, rfl⟩, h2⟩ := h; exact ⟨us, xs, rfl, h1, h2⟩
theorem OS {d : Nat} {Ds : List D} (h : Iy P d [] Ds) : Ds = [] := by
 cases Ds with
 | nil => rfl
 | cons x xs => exact h.elim
end
end Go.Lift
namespace Go.Lift
open List renaming mem_of_getElem? → lM
open List renaming getD_eq_getElem?_getD → lD
open Go.RowKit
variable {P : Program} {X : Ic} {ops : Array Oper}
instance : Inhabited BE := ⟨.gone⟩
def Hu (n m b : Nat) : Bool := if BY b then Nat.blt (b - 90000) n else Nat.blt b m
def QF (G : Gh) (n : Nat) (β : Nat) : Prop := ∃ k, k < n ∧ G.has (90000 + k) β
theorem Hd {k : Nat} (h : k < 1000) : BY (90000 + k) = true := by
 unfold BY
 rw [Nat.ble_eq_true_of_le (by omega), Nat.ble_eq_true_of_le (by omega)]; rfl
theorem Q6 {k : Nat} (h : k < 900) : NA (90000 + k) = true := by
 unfold NA
 rw [Bool.and_eq_true]
 exact ⟨Nat.ble_eq_true_of_le (by omega), Nat.ble_eq_true_of_le (by omega)⟩
theorem Iq {b : Nat} (h : BY b = true) : ∃ k, k < 1000 ∧ b = 90000 + k := by
 unfold BY at h
 rw [Bool.and_eq_true] at h
 have h1 := Nat.le_of_ble_eq_true h.1
 have h2 := Nat.le_of_ble_eq_true h.2
 exact ⟨b - 90000, by omega, by omega⟩
def By (P : Program) (f : FuncId) (args : List D) (lent : List (BE × BE)) (rv : List BE) (res : D) : Prop :=
 ∀ (w : World) (G : Gh) (vs : Array Value), (∀ β, G.S β → β < w.heap.size) →
  (∀ (k : Nat) (x : BE × BE), lent[k]? = some x → EO P w G (90000 + k) x.1) →
  (∀ k β, k < lent.length → G.has (90000 + k) β → β < w.heap.size ∧ ¬ G.S β) →
  (∀ k l β, k < lent.length → l < lent.length → G.has (90000 + k) β → G.has (90000 + l) β → k = l) →
  vs.size = args.length → (∀ (j : Nat) (d : D), args[j]? = some d → F7 P w G (AE vs j) d) →
  Calls P f vs w fun e w' => ∃ v G', e = .returned v ∧ C5 (QF G lent.length) w.heap.size w w' ∧ (∀ β, G.S β → G'.S β) ∧ (∀ β, G'.S β → G.S β ∨ (w.heap.size ≤ β ∧ β < w'.heap.size)) ∧ F7 P w' G' v res ∧
   (∀ (k : Nat) (x : BE × BE), lent[k]? = some x → EO P w' G' (90000 + k) x.2) ∧
   (∀ (k : Nat) (x : BE), rv[k]? = some x → EO P w' G' k x) ∧
   (∀ k, k < lent.length → G'.loc (90000 + k) = G.loc (90000 + k) ∧ G'.hd (90000 + k) = G.hd (90000 + k) ∧ G'.more (90000 + k) = G.more (90000 + k)) ∧
   (∀ k β, k < lent.length → G'.has (90000 + k) β → ¬ G'.S β) ∧
   (∀ k β, k < rv.length → G'.has k β → w.heap.size ≤ β ∧ β < w'.heap.size ∧ ¬ G'.S β) ∧
   (∀ k l β, k < rv.length → l < rv.length → G'.has k β → G'.has l β → k = l)
def Nb (args : List D) (lent : List (BE × BE)) : St := ⟨fun s => args[s]?, fun b => if BY b then (lent[b - 90000]?).map (·.1) else none⟩
def N7 (bx : Nat → Option BE) (f : Nat → Nat) : Nat → List (BE × BE) → Prop
 | _, [] => True
 | k, x :: xs => bx (90000 + k) = some (x.2.ren f) ∧ N7 bx f (k + 1) xs
def PI (bx : Nat → Option BE) (f : Nat → Nat) : Nat → List BE → Prop
 | _, [] => True
 | k, x :: xs => bx (1000 + k) = some (x.ren f) ∧ PI bx f (k + 1) xs
theorem Lc {bx : Nat → Option BE} {f : Nat → Nat} : ∀ {l : List (BE × BE)} {m : Nat}, N7 bx f m l → ∀ (k : Nat) (x : BE × BE), l[k]? = some x → bx (90000 + (m + k)) = some (x.2.ren f)
 | y :: rv, m, h, 0, x, hk => by simp at hk; subst hk; exact h.1
 | y :: rv, m, h, k + 1, x, hk => by
  have := Lc h.2 k x (by simpa using hk)
  rwa [show m + 1 + k = m + (k + 1) from by omega] at this
theorem Mb {bx : Nat → Option BE} {f : Nat → Nat} : ∀ {l : List BE} {m : Nat}, PI bx f m l → ∀ (k : Nat) (x : BE), l[k]? = some x → bx (1000 + (m + k)) = some (x.ren f)
 | y :: rv, m, h, 0, x, hk => by simp at hk; subst hk; exact h.1
 | y :: rv, m, h, k + 1, x, hk => by
  have := Mb h.2 k x (by simpa using hk)
  rwa [show m + 1 + k = m + (k + 1) from by omega] at this
def Jm (b : Nat) : Nat := if BY b then b else 1000 + b
structure R2 (P : Program) (rs : List ResultVar) (st : St) (lent : List (BE × BE)) (rv : List BE) (res : D) : Prop where
 r : ∃ xs, WF P st rs xs ∧ VY xs = res.ren Jm
 l : N7 st.bx Jm 0 lent
 v : PI st.bx Jm 0 rv
def IA (n m : Nat) (l : List Nat) : Bool := l.all (Hu n m)
theorem Br {f n : Nat} {fn : Func} {c : Code} {args : List D} {lent : List (BE × BE)} {rv : List BE} {res : D} {rs : List ResultVar} (hf : P.funcs[f]? = some fn) (hb : fn.body = some c) (hn : fn.ntmps = n) (hrs : fn.results.toList = rs) (hl : args.length ≤ n) (hn9 : n ≤ 90000)
  (hargs : (args.all fun d => IA lent.length 0 d.names) = true) (hpre : (lent.all fun x => IA lent.length 0 x.1.names && x.1.real && x.2.real) = true) (hll : lent.length ≤ 900) (hrl : (rv.all fun x => x.real) = true) (hrn : rv.length ≤ 1000)
  (h : ∀ (w0 : World) (S0 : Nat → Prop) (GL : Gh), W P ⟨w0, S0, n, GL⟩ c (fun e st => match e with | .normal | .ret => R2 P rs st lent rv res | _ => False) (Nb args lent)) : By P f args lent rv res := by
 subst hn; subst hrs
 intro w G vs hS hlb hla hli hlen hrd
 refine calls_of_wp hf hb ?_
 have hcell : ∀ j, j < args.length → AE (vs ++ Array.replicate (fn.ntmps - vs.size) undef) j = AE vs j := fun j hj => C4 (by omega)
 -- the ghost that knows of what is lent alone
 let dom : Nat → Prop := fun b => BY b = true ∧ b - 90000 < lent.length
 have hdec : ∀ b, Decidable (dom b) := fun b => inferInstanceAs (Decidable (_ ∧ _))
 let GL : Gh := { S := G.S, loc := fun b => if dom b then G.loc b else none, hd := fun b => if dom b then G.hd b else undef, more := fun b => if dom b then G.more b else fun _ => False }
 have hext : G.ext GL dom := ⟨fun _ h => h, fun b hb => if_pos hb, fun b hb => if_pos hb, fun b hb => if_pos hb⟩
 have hdomk : ∀ k, k < lent.length → dom (90000 + k) := fun k hk => ⟨Hd (by omega), by omega⟩
 have hin : ∀ b, Hu lent.length 0 b = true → dom b := by
  intro b hb
  unfold Hu at hb
  split at hb
  ·rename_i hl; exact ⟨hl, by rwa [Nat.blt_eq] at hb⟩
  ·simp [Nat.blt] at hb
 have hhas : ∀ b β, GL.has b β → dom b ∧ G.has b β := by
  intro b β hb
  by_cases hd : dom b
  ·exact ⟨hd, (hext.has hd).1 hb⟩
  ·exfalso
   unfold Gh.has at hb
   simp only [GL] at hb
   rw [if_neg hd, if_neg hd] at hb
   rcases hb with h | h
   ·cases h
   ·exact h
 have hlent : ∀ β, GL.lent β ↔ QF G lent.length β := by
  intro β
  constructor
  ·rintro ⟨b, hb, hb2⟩
   obtain ⟨hd, hg⟩ := hhas b β hb2
   obtain ⟨k, _, rfl⟩ := Iq hb
   exact ⟨k, by have := hd.2; omega, hg⟩
  ·rintro ⟨k, hk, hg⟩
   exact ⟨90000 + k, Hd (by omega), (hext.has (hdomk k hk)).2 hg⟩
 have hbx : ∀ b k, (Nb args lent).bx b = some k → dom b ∧ ∃ x, lent[b - 90000]? = some x ∧ x.1 = k := by
  intro b k hk
  simp only [Nb] at hk
  split at hk
  ·rename_i hb
   cases hx : lent[b - 90000]? with
   | none => rw [hx] at hk; cases hk
   | some x => rw [hx] at hk; cases hk; exact ⟨⟨hb, AS hx⟩, x, rfl, rfl⟩
  ·cases hk
 have hdn : ∀ b, dom b → ((Nb args lent).bx b).isSome = true := by
  intro b hb
  simp only [Nb]
  rw [if_pos hb.1]
  simp [hb.2]
 have hpre' : ∀ x, x ∈ lent → IA lent.length 0 x.1.names = true ∧ x.1.real = true ∧ x.2.real = true := fun x hx => by
  have := List.all_eq_true.1 hpre x hx
  rw [Bool.and_eq_true, Bool.and_eq_true] at this
  exact ⟨this.1.1, this.1.2, this.2⟩
 have hbk : ∀ b, dom b → b = 90000 + (b - 90000) := fun b hb => by obtain ⟨k, _, e⟩ := Iq hb.1; omega
 have hinit : Dc P ⟨w, G.S, fn.ntmps, GL⟩ GL (Nb args lent) { tmps := vs ++ Array.replicate (fn.ntmps - vs.size) undef, defers := [] } w := by
  refine { S_lt := hS, S_src := fun β h => .inl h, S_0 := fun β h => h, S0_lt := hS, tsz := by simp; omega, defers := rfl, below := C5.refl _ _ _, nlt := hn9, lent := fun _ _ => ⟨rfl, rfl, rfl⟩, blk := ?_, at_ok := ?_, at_inj := ?_, env := ?_, live := ?_, liveB := ?_ }
  ·intro b k hk
   obtain ⟨hd, x, hx, rfl⟩ := hbx b k hk
   have h1 := hlb _ x hx
   rw [← hbk b hd] at h1
   exact h1.mono hext hd (fun _ _ => rfl) (fun _ _ _ => rfl) fun c hc => hin c (List.all_eq_true.1 (hpre' x (lM hx)).1 c hc)
  ·intro b k β hk hr hβ
   obtain ⟨hd, hg⟩ := hhas b β hβ
   rw [hbk b hd] at hg
   have := hla _ β hd.2 hg
   exact ⟨⟨fun h3 => (by rw [hd.1] at h3; cases h3), .inr ⟨b, hd.1, hβ⟩⟩, this.1, this.2⟩
  ·intro b c k l β hk hl hr hr' hβ hβ'
   obtain ⟨hd, hg⟩ := hhas b β hβ
   obtain ⟨hd', hg'⟩ := hhas c β hβ'
   rw [hbk b hd] at hg
   rw [hbk c hd'] at hg'
   have := hli _ _ β hd.2 hd'.2 hg hg'
   rw [hbk b hd, hbk c hd', this]
  ·intro s d hs
   have hs' : args[s]? = some d := hs
   rw [hcell s (AS hs')]
   exact (hrd s d hs').mono hext (fun _ _ => rfl) fun b hb => hin b (List.all_eq_true.1 (List.all_eq_true.1 hargs d (lM hs')) b hb)
  ·intro s d hs b hb
   have hs' : args[s]? = some d := hs
   exact hdn b (hin b (List.all_eq_true.1 (List.all_eq_true.1 hargs d (lM hs')) b hb))
  ·intro b k hk c hc
   obtain ⟨hd, x, hx, rfl⟩ := hbx b k hk
   exact hdn c (hin c (List.all_eq_true.1 (hpre' x (lM hx)).1 c hc))
 refine wp_mono (h w G.S GL _ w ⟨_, hinit⟩) ?_
 rintro e a' w' ⟨st', hq, G2, hs⟩
 have key : R2 P fn.results.toList st' lent rv res → a'.defers = [] ∧ ∃ v, (results fn a'.tmps).run P w' = .ok v w' ∧ ∃ v' G', Ending.returned v = .returned v' ∧ C5 (QF G lent.length) w.heap.size w w' ∧ (∀ β, G.S β → G'.S β) ∧ (∀ β, G'.S β → G.S β ∨ (w.heap.size ≤ β ∧ β < w'.heap.size)) ∧ F7 P w' G' v' res ∧
   (∀ (k : Nat) (x : BE × BE), lent[k]? = some x → EO P w' G' (90000 + k) x.2) ∧
   (∀ (k : Nat) (x : BE), rv[k]? = some x → EO P w' G' k x) ∧
   (∀ k, k < lent.length → G'.loc (90000 + k) = G.loc (90000 + k) ∧ G'.hd (90000 + k) = G.hd (90000 + k) ∧ G'.more (90000 + k) = G.more (90000 + k)) ∧
   (∀ k β, k < lent.length → G'.has (90000 + k) β → ¬ G'.S β) ∧
   (∀ k β, k < rv.length → G'.has k β → w.heap.size ≤ β ∧ β < w'.heap.size ∧ ¬ G'.S β) ∧
   (∀ k l β, k < rv.length → l < rv.length → G'.has k β → G'.has l β → k = l) := by
  rintro ⟨⟨xs, hr1, hr2⟩, hlp, hv⟩
  obtain ⟨us, h1, h2, h3⟩ := hs.rrs hr1
  have hoL : ∀ k, k < lent.length → Jm (90000 + k) = 90000 + k := fun k hk => by unfold Jm; rw [Hd (by omega)]; rfl
  have hoN : ∀ k, k < rv.length → Jm k = 1000 + k := fun k hk => by unfold Jm; rw [H9 (show k < 1000 by omega) (by omega)]; rfl
  have hbl : ∀ (k : Nat) (x : BE × BE), lent[k]? = some x → st'.bx (90000 + k) = some (x.2.ren Jm) := fun k x hk => by
   have := Lc hlp k x hk
   rwa [Nat.zero_add] at this
  have hbv : ∀ (k : Nat) (x : BE), rv[k]? = some x → st'.bx (1000 + k) = some (x.ren Jm) := fun k x hk => by
   have := Mb hv k x hk
   rwa [Nat.zero_add] at this
  have hreal : ∀ (k : Nat) (x : BE), rv[k]? = some x → (x.ren Jm).real = true := fun k x hk => by
   rw [H8]; exact List.all_eq_true.1 hrl x (lM hk)
  have hgl : ∀ k, k < lent.length → G2.loc (90000 + k) = G.loc (90000 + k) ∧ G2.hd (90000 + k) = G.hd (90000 + k) ∧ G2.more (90000 + k) = G.more (90000 + k) := fun k hk => by
   obtain ⟨e1, e2, e3⟩ := hs.lent (90000 + k) (Q6 (by omega))
   exact ⟨e1.trans (hext.loc _ (hdomk k hk)), e2.trans (hext.hd _ (hdomk k hk)), e3.trans (hext.more _ (hdomk k hk))⟩
  refine ⟨hs.defers, (if h : us.toArray.size = 1 then us.toArray[0] else .tuple us.toArray), ?_, _, { S := G2.S, loc := fun b => G2.loc (Jm b), hd := fun b => G2.hd (Jm b), more := fun b => G2.more (Jm b) }, rfl, ?_, hs.S_0, ?_, ?_, ?_, ?_, ?_, ?_, ?_, ?_⟩
  ·unfold results
   refine Ar (a := us.toArray) (w1 := w') ?_ rfl
   rw [Array.mapM_eq_mapM_toList]
   simp only [Sem.run_map]
   exact congrArg (fun r => Result.andThen r fun a w' => Result.ok a.toArray w') h1
  ·have hb := hs.below
   exact ⟨hb.os, hb.tape, hb.output, hb.size, fun k hk hl => hb.block k hk fun h => hl ((hlent k).1 h)⟩
  ·intro β hβ
   rcases hs.S_src β hβ with h | h
   ·exact .inl h
   ·exact .inr ⟨h, hs.S_lt β hβ⟩
  ·refine In (f := Jm) ?_
   rw [← hr2]
   match xs, us, h2 with
   | [], [], _ => exact ⟨#[], rfl, rfl, fun j x h => by simp at h⟩
   | [x], [u], _ => exact h3 0 u x rfl rfl
   | x :: y :: xs, u :: u' :: us, hl2 =>
    refine ⟨(u :: u' :: us).toArray, by simp, by simpa using hl2, fun j z hj => ?_⟩
    have hlt := AS hj
    have hu : (u :: u' :: us)[j]? = some ((u :: u' :: us)[j]'(by rw [hl2]; exact hlt)) := by rw [List.getElem?_eq_getElem]
    have := h3 j _ z hu hj
    have hc : AE (u :: u' :: us).toArray j = (u :: u' :: us)[j]'(by rw [hl2]; exact hlt) := by
     unfold AE
     rw [List.getElem?_toArray, hu]; rfl
    rw [hc]; exact this
  ·intro k x hk
   refine Ig (f := Jm) ?_
   rw [hoL k (AS hk)]
   exact hs.blk _ _ (hbl k x hk)
  ·intro k x hk
   refine Ig (f := Jm) ?_
   rw [hoN k (AS hk)]
   exact hs.blk _ _ (hbv k x hk)
  ·intro k hk
   simp only [hoL k hk]
   exact hgl k hk
  ·intro k β hk hβ
   have hx : lent[k]? = some lent[k] := by simp [hk]
   have hβ : G2.has (90000 + k) β := by
    unfold Gh.has at hβ ⊢
    simp only [hoL k hk] at hβ
    exact hβ
   exact (hs.at_ok _ _ β (hbl k _ hx) (by rw [H8]; exact (hpre' _ (lM hx)).2.2) hβ).2.2
  ·intro k β hk hβ
   have hx : rv[k]? = some rv[k] := by simp [hk]
   have hβ : G2.has (1000 + k) β := by
    unfold Gh.has at hβ ⊢
    simp only [hoN k hk] at hβ
    exact hβ
   have := hs.at_ok _ _ β (hbv k _ hx) (hreal k _ hx) hβ
   exact ⟨this.1.1 (H9 (show 1000 + k < 3000 by omega) (by omega)), this.2⟩
  ·intro k l β hk hl hβ hβ'
   have hx : rv[k]? = some rv[k] := by simp [hk]
   have hx' : rv[l]? = some rv[l] := by simp [hl]
   have hβ : G2.has (1000 + k) β := by
    unfold Gh.has at hβ ⊢
    simp only [hoN k hk] at hβ
    exact hβ
   have hβ' : G2.has (1000 + l) β := by
    unfold Gh.has at hβ' ⊢
    simp only [hoN l hl] at hβ'
    exact hβ'
   have := hs.at_inj _ _ _ _ β (hbv k _ hx) (hbv l _ hx') (hreal k _ hx) (hreal l _ hx') hβ hβ'
   omega
 cases e with
 | normal => exact key hq
 | ret => exact key hq
 | _ => exact hq.elim
def nu (ls ns : List Nat) (b : Nat) : Nat := if BY b then ls.getD (b - 90000) 0 else ns.getD b 0
def Nm (f : Nat → Nat) : List Nat → List (BE × BE) → List (Nat × BE)
 | l :: ls, x :: xs => (l, x.1.ren f) :: Nm f ls xs
 | _, _ => []
def HI (f : Nat → Nat) : List Nat → List (BE × BE) → List Bool → List (Nat × BE) → List (Nat × BE)
 | l :: ls, x :: xs, c :: cs, r => if c then (l, x.2.ren f) :: HI f ls xs cs r else HI f ls xs cs r
 | _, _, _, r => r
def newB (f : Nat → Nat) : List Nat → List BE → List (Nat × BE)
 | n :: ns, x :: xs => (n, x.ren f) :: newB f ns xs
 | _, _ => []
def Si : List (BE × BE) → List Bool → Prop
 | x :: xs, c :: cs => (c = false → x.1 = x.2) ∧ Si xs cs
 | [], [] => True
 | _, _ => False
theorem Nn {f : Nat → Nat} {bx : Nat → Option BE} : ∀ {ls : List Nat} {lent : List (BE × BE)}, ls.length = lent.length → GQ bx (Nm f ls lent) → ∀ (k : Nat) (x : BE × BE), lent[k]? = some x → bx (nm ls k) = some (x.1.ren f)
 | [], [], _, _, k, y, hk => by simp at hk
 | l :: ls, x :: xs, hl, h, 0, y, hk => by simp at hk; subst hk; exact h.1
 | l :: ls, x :: xs, hl, h, k + 1, y, hk => by
  have := Nn (ls := ls) (lent := xs) (by simpa using hl) h.2 k y (by simpa using hk)
  simpa [nm] using this
theorem M2 {f : Nat → Nat} {bx : Nat → Option BE} {r : List (Nat × BE)} : ∀ {ls : List Nat} {lent : List (BE × BE)} {ch : List Bool}, ls.length = lent.length → ls.Nodup → Si lent ch → (∀ c, c ∈ ls → Bx bx r c = bx c) → GQ bx (Nm f ls lent) →
  (∀ c, c ∉ ls → Bx bx (HI f ls lent ch r) c = Bx bx r c) ∧ ∀ (k : Nat) (x : BE × BE), lent[k]? = some x → Bx bx (HI f ls lent ch r) (nm ls k) = some (x.2.ren f)
 | [], [], [], _, _, _, _, _ => ⟨fun _ _ => rfl, fun k x h => by simp at h⟩
 | [], [], _ :: _, _, _, h, _, _ => h.elim
 | l :: ls, x :: xs, [], hl, hnd, hc, hr, hp => by cases hc
 | l :: ls, x :: xs, c :: cs, hl, hnd, hc, hr, hp => by
  have ih := M2 (f := f) (bx := bx) (r := r) (ls := ls) (lent := xs) (ch := cs) (by simpa using hl) (List.nodup_cons.1 hnd).2 hc.2 (fun c hc => hr c (by simp [hc])) hp.2
  have hln : l ∉ ls := (List.nodup_cons.1 hnd).1
  have hl0 : Bx bx (HI f ls xs cs r) l = bx l := (ih.1 l hln).trans (hr l (by simp))
  refine ⟨fun d hd => ?_, fun k y hk => ?_⟩
  ·simp only [List.mem_cons, not_or] at hd
   simp only [HI]
   split
   ·simp only [Bx]; rw [if_neg hd.1]; exact ih.1 d hd.2
   ·exact ih.1 d hd.2
  ·cases k with
   | zero =>
    simp at hk; subst hk
    simp only [HI, nm, List.getD_cons_zero]
    split
    ·simp [Bx]
    ·rename_i hcc
     have hcf : c = false := by simpa using hcc
     rw [hl0, hp.1, hc.1 hcf]
   | succ k =>
    have hk' : xs[k]? = some y := by simpa using hk
    have hlt := AS hk'
    have hlt2 : k < ls.length := by simp at hl; omega
    have e : nm (l :: ls) (k + 1) = nm ls k := by simp [nm]
    rw [e]
    have hne : nm ls k ≠ l := fun h => hln (h ▸ EF hlt2)
    simp only [HI]
    split
    ·simp only [Bx]; rw [if_neg hne]; exact ih.2 k y hk'
    ·exact ih.2 k y hk'
theorem Mj {f : Nat → Nat} {bx : Nat → Option BE} : ∀ {ns : List Nat} {rv : List BE} {c : Nat}, ns.length = rv.length → ns.Nodup →
  (c ∉ ns → Bx bx (newB f ns rv) c = bx c) ∧ ∀ (k : Nat) (x : BE), rv[k]? = some x → Bx bx (newB f ns rv) (nm ns k) = some (x.ren f)
 | [], [], c, _, _ => ⟨fun _ => rfl, fun k x h => by simp at h⟩
 | n :: ns, x :: xs, c, hl, hnd => by
  have ih := Mj (f := f) (bx := bx) (ns := ns) (rv := xs) (c := c) (by simpa using hl) (List.nodup_cons.1 hnd).2
  refine ⟨fun hc => ?_, fun k y hk => ?_⟩
  ·simp only [List.mem_cons, not_or] at hc
   simp only [newB, Bx]
   rw [if_neg hc.1]; exact ih.1 hc.2
  ·cases k with
   | zero => simp at hk; subst hk; simp [newB, Bx, nm]
   | succ k =>
    have hk' : xs[k]? = some y := by simpa using hk
    have hlt := AS hk'
    have hlt2 : k < ns.length := by simp at hl; omega
    have : nm (n :: ns) (k + 1) = nm ns k := by simp [nm]
    rw [this]
    have hne : nm ns k ≠ n := fun e => (List.nodup_cons.1 hnd).1 (e ▸ EF hlt2)
    simp only [newB, Bx]
    rw [if_neg hne]
    exact (Mj (f := f) (bx := bx) (ns := ns) (rv := xs) (c := c) (by simpa using hl) (List.nodup_cons.1 hnd).2).2 k y hk'
theorem F2 {ls ns : List Nat} {k : Nat} (h : k < 1000) : nu ls ns (90000 + k) = nm ls k := by
 unfold nu nm; rw [Hd h, if_pos rfl, show 90000 + k - 90000 = k from by omega]
theorem KN {ls ns : List Nat} {k : Nat} (h : k < 90000) : nu ls ns k = nm ns k := by
 unfold nu nm; rw [H9 h (Nat.le_refl _), if_neg (by simp)]
theorem Mp {bx : Nat → Option BE} {c : Nat} : ∀ {wb : List (Nat × BE)}, (bx c).isSome = true → (Bx bx wb c).isSome = true
 | [], h => h
 | p :: ps, h => by
  simp only [Bx]; split
  ·rfl
  ·exact Mp h
section run
variable {dr : Bool} {Q : St → Prop} {r i : Nat} {st : St} {log : List (Nat × CR)} {o : Oper} {gs : List (Operand × D)}
theorem CP {f s : Nat} {xs : List Operand} {ds0 ds : List D} {lent : List (BE × BE)} {rv : List BE} {res : D} {ts : Array TypeId} (ls ns : List Nat) (ch : List Bool) (hc : By P f ds lent rv res) (hat : At st.env ops i X.n (.call ⟨.value (.func f), xs.toArray, ts⟩) s gs)
  (hf : AN P f = true) (hl : xs.length = ds0.length) (hx : E4 st.env (HX xs ds0)) (hds : ds0.map D.nrm = ds.map (D.ren (nu ls ns)))
  (hll : ls.length = lent.length) (hln : ls.Nodup) (hlb : GQ st.bx (Nm (nu ls ns) ls lent)) (hns : ns.length = rv.length) (hndl : L4 ns) (hnew : Md st.bx ns) (hch : Si lent ch)
  (hlim : (Nat.ble lent.length 1000 && Nat.ble rv.length 1000) = true) (hre : (lent.all fun x => x.1.real && x.2.real) = true)
  (hnm : (IA lent.length rv.length res.names && (lent.all fun x => IA lent.length rv.length x.2.names) && rv.all fun x => IA lent.length rv.length x.names) = true)
  (next : Bs P X ops dr Q r (i + 1) (CR.upd ⟨gs ++ HX xs ds0, Nm (nu ls ns) ls lent, some s, some (res.ren (nu ls ns)), HI (nu ls ns) ls lent ch (newB (nu ls ns) ns rv), ns⟩ st) ((i, ⟨gs ++ HX xs ds0, Nm (nu ls ns) ls lent, some s, some (res.ren (nu ls ns)), HI (nu ls ns) ls lent ch (newB (nu ls ns) ns rv), ns⟩) :: log)) : Bs P X ops dr Q (r + 1) i st log := by
 obtain ⟨o, ho, hop, hd, hn, hg, hgp⟩ := hat.out
 have hnd := hndl.1
 rw [Bool.and_eq_true] at hlim
 have hlim1 := Nat.le_of_ble_eq_true hlim.1
 have hlim2 := Nat.le_of_ble_eq_true hlim.2
 rw [Bool.and_eq_true, Bool.and_eq_true] at hnm
 obtain ⟨⟨hnmR, hnmL⟩, hnmV⟩ := hnm
 have hre' : ∀ x, x ∈ lent → x.1.real = true ∧ x.2.real = true := fun x hx => by
  have := List.all_eq_true.1 hre x hx
  rw [Bool.and_eq_true] at this
  exact this
 refine Bs.step next ⟨Aw.2 ⟨hgp, hx⟩, hlb, hnew⟩ ?_
 intro st a w K Q' hs hpre hK
 obtain ⟨G, hs⟩ := hs
 have hx := (Aw.1 hpre.r).2
 have hw := hs.wanted hg (Aw.1 hpre.r).1
 have hnew := hpre.n
 have hlb := hpre.b
 have hnew' : ∀ c, c ∈ ns → st.bx c = none := by
  have : ∀ {l : List Nat}, Md st.bx l → ∀ c, c ∈ l → st.bx c = none := by
   intro l
   induction l with
   | nil => intro _ c hc; cases hc
   | cons b l ih =>
    intro h c hc
    rcases List.mem_cons.1 hc with e | e
    ·subst e; exact h.1
    ·exact ih h.2 c e
  exact this hnew
 have hget := fun k x hk => Nn (f := nu ls ns) hll hlb k x hk
 have hlk : ∀ k, k < lent.length → st.bx (nm ls k) = some (lent[k]!.1.ren (nu ls ns)) ∧ (lent[k]!.1.ren (nu ls ns)).real = true := fun k hk => by
  have hx0 : lent[k]? = some lent[k]! := by simp [hk]
  exact ⟨hget k _ hx0, by rw [H8]; exact (hre' _ (lM hx0)).1⟩
 have hlsns : ∀ c, c ∈ ls → c ∉ ns := fun c hc hm => by
  obtain ⟨k, hk, e⟩ := Mr hc
  have := (hlk k (by omega)).1
  rw [e, hnew' c hm] at this; cases this
 unfold wpOp
 rw [ho]
 simp only [hw, if_true]
 refine .inl ?_
 unfold Oper.wp
 have hrun : (execOp a.eval o).run P w = .ok (.enter f (xs.toArray.map a.eval)) w := by
  simp only [execOp, hop]
  exact Ht hf rfl
 rw [hrun]
 show Calls P f (xs.toArray.map a.eval) w _
 let Gc : Gh := { S := G.S, loc := fun b => G.loc (nu ls ns b), hd := fun b => G.hd (nu ls ns b), more := fun b => G.more (nu ls ns b) }
 have hGc : ∀ k β, k < lent.length → (Gc.has (90000 + k) β ↔ G.has (nm ls k) β) := fun k β hk => by
  unfold Gh.has; simp only [Gc]; rw [F2 (by omega)]
 refine (hc w Gc (xs.toArray.map a.eval) hs.S_lt ?_ ?_ ?_ ?_ ?_).mono ?_
 ·intro k x hk
  refine Ig (f := nu ls ns) ?_
  rw [F2 (by have := AS hk; omega)]
  exact hs.blk _ _ (hget k x hk)
 ·intro k β hk hβ
  have h1 := hlk k hk
  exact (hs.at_ok _ _ β h1.1 h1.2 ((hGc k β hk).1 hβ)).2
 ·intro k l β hk hl' hβ hβ'
  have h1 := hlk k hk
  have h2 := hlk l hl'
  have := hs.at_inj _ _ _ _ β h1.1 h2.1 h1.2 h2.2 ((hGc k β hk).1 hβ) ((hGc l β hl').1 hβ')
  exact N9 hln (by omega) (by omega) this
 ·have h1 := congrArg List.length hds
  simp at h1
  simp; omega
 ·intro j d hj
  have hj2 : (ds.map (D.ren (nu ls ns)))[j]? = some (d.ren (nu ls ns)) := by rw [List.getElem?_map, hj]; rfl
  rw [← hds, List.getElem?_map] at hj2
  obtain ⟨d0, hj0, hd0⟩ : ∃ d0, ds0[j]? = some d0 ∧ d0.nrm = d.ren (nu ls ns) := by
   cases hx0 : ds0[j]? with
   | none => rw [hx0] at hj2; cases hj2
   | some d0 => rw [hx0] at hj2; exact ⟨d0, rfl, by simpa using hj2⟩
  have hlt := AS hj0
  have hxj : xs[j]? = some (xs[j]'(by omega)) := by simp [show j < xs.length from by omega]
  have hop' := H3 hl hx j _ d0 hxj hj0
  have hcell : AE (xs.toArray.map a.eval) j = a.eval (xs[j]'(by omega)) := by simp [AE, show j < xs.length from by omega]
  rw [hcell]
  refine In (f := nu ls ns) ?_
  rw [← hd0]
  exact (hs.opd hop').nrm
 ·rintro e w' ⟨v, G', rfl, hbel, hS1, hS2, hres', hpost, hvec, hsame, hlS, hvat, hvinj⟩
  show K (a.put o.dst v) w'
  rw [hd]
  let G2 : Gh := { S := G'.S, loc := fun c => if c ∈ ns then G'.loc (ns.idxOf c) else G.loc c, hd := fun c => if c ∈ ns then G'.hd (ns.idxOf c) else G.hd c, more := fun c => if c ∈ ns then G'.more (ns.idxOf c) else G.more c }
  have hidx : ∀ k, k < ns.length → ns.idxOf (nm ns k) = k := by
   intro k hk
   have hm := EF hk
   have h1 : ns.idxOf (nm ns k) < ns.length := List.idxOf_lt_length_of_mem hm
   refine N9 hnd h1 hk ?_
   have h2 := List.getElem_idxOf h1
   show ns.getD (ns.idxOf (nm ns k)) 0 = nm ns k
   rw [lD, List.getElem?_eq_getElem h1, Option.getD_some, h2]
  have hvia : G'.via G2 (nu ls ns) (fun b => Hu lent.length rv.length b = true) := by
   have key : ∀ b, Hu lent.length rv.length b = true → (∃ k, k < lent.length ∧ b = 90000 + k) ∨ (b < rv.length ∧ BY b = false) := by
    intro b hb
    unfold Hu at hb
    split at hb
    ·rename_i h
     obtain ⟨k, _, rfl⟩ := Iq h
     rw [Nat.blt_eq] at hb
     exact .inl ⟨k, by omega, rfl⟩
    ·rename_i h
     rw [Nat.blt_eq] at hb
     exact .inr ⟨hb, by simpa using h⟩
   refine ⟨fun β h => h, fun b hb => ?_, fun b hb => ?_, fun b hb => ?_⟩
   ·rcases key b hb with ⟨k, hk, rfl⟩ | ⟨hb1, hb2⟩
    ·rw [F2 (by omega)]
     have hni : nm ls k ∉ ns := hlsns _ (EF (by omega))
     simp only [G2]; rw [if_neg hni, (hsame k hk).1]; simp only [Gc]; rw [F2 (by omega)]
    ·rw [KN (by omega)]
     simp only [G2]; rw [if_pos (EF (by omega)), hidx b (by omega)]
   ·rcases key b hb with ⟨k, hk, rfl⟩ | ⟨hb1, hb2⟩
    ·rw [F2 (by omega)]
     have hni : nm ls k ∉ ns := hlsns _ (EF (by omega))
     simp only [G2]; rw [if_neg hni, (hsame k hk).2.1]; simp only [Gc]; rw [F2 (by omega)]
    ·rw [KN (by omega)]
     simp only [G2]; rw [if_pos (EF (by omega)), hidx b (by omega)]
   ·rcases key b hb with ⟨k, hk, rfl⟩ | ⟨hb1, hb2⟩
    ·rw [F2 (by omega)]
     have hni : nm ls k ∉ ns := hlsns _ (EF (by omega))
     simp only [G2]; rw [if_neg hni, (hsame k hk).2.2]; simp only [Gc]; rw [F2 (by omega)]
    ·rw [KN (by omega)]
     simp only [G2]; rw [if_pos (EF (by omega)), hidx b (by omega)]
  have hext : G.ext G2 (fun b => (st.bx b).isSome = true) := by
   have : ∀ b, (st.bx b).isSome = true → b ∉ ns := fun b hb hm => by rw [hnew' b hm] at hb; cases hb
   exact ⟨fun β h => hS1 β h, fun b hb => by simp only [G2]; rw [if_neg (this b hb)], fun b hb => by simp only [G2]; rw [if_neg (this b hb)], fun b hb => by simp only [G2]; rw [if_neg (this b hb)]⟩
  have hnotL : ∀ β, QF Gc lent.length β → ∃ k, k < lent.length ∧ G.has (nm ls k) β := fun β ⟨k, hk, hb⟩ => ⟨k, hk, (hGc k β hk).1 hb⟩
  have hwS : ∀ β, G.S β → w'.heap[β]? = w.heap[β]? := fun β hβ => hbel.block β (hs.S_lt β hβ) fun h => by
   obtain ⟨k, hk, hg⟩ := hnotL β h
   exact (hs.at_ok _ _ β (hlk k hk).1 (hlk k hk).2 hg).2.2 hβ
  have hsz := hbel.size
  have hle := hs.below.size
  have hng := fun c => Mj (f := nu ls ns) (bx := st.bx) (ns := ns) (rv := rv) (c := c) hns hnd
  have hbg := M2 (f := nu ls ns) (bx := st.bx) (r := newB (nu ls ns) ns rv) (ls := ls) (lent := lent) (ch := ch) hll hln hch (fun c hc => (hng c).1 (hlsns c hc)) hlb
  have hblk : ∀ c k, Bx st.bx (HI (nu ls ns) ls lent ch (newB (nu ls ns) ns rv)) c = some k →
    (c ∉ ns ∧ c ∉ ls ∧ st.bx c = some k) ∨ (∃ m x, m < ns.length ∧ nm ns m = c ∧ rv[m]? = some x ∧ k = x.ren (nu ls ns)) ∨ (∃ m x, m < ls.length ∧ nm ls m = c ∧ lent[m]? = some x ∧ k = x.2.ren (nu ls ns)) := by
   intro c k hc
   by_cases hm : c ∈ ls
   ·obtain ⟨m, hm1, hm2⟩ := Mr hm
    have hlx : lent[m]? = some (lent[m]'(by omega)) := by simp [show m < lent.length from by omega]
    have := hbg.2 m _ hlx
    rw [hm2, hc] at this
    exact .inr (.inr ⟨m, _, hm1, hm2, hlx, by simpa using this⟩)
   ·rw [hbg.1 c hm] at hc
    by_cases hm2 : c ∈ ns
    ·obtain ⟨m, hm1, hm3⟩ := Mr hm2
     have hrx : rv[m]? = some (rv[m]'(by omega)) := by simp [show m < rv.length from by omega]
     have := (hng c).2 m _ hrx
     rw [hm3, hc] at this
     exact .inr (.inl ⟨m, _, hm1, hm3, hrx, by simpa using this⟩)
    ·rw [(hng c).1 hm2] at hc; exact .inl ⟨hm2, hm, hc⟩
  have hdom : ∀ b, Hu lent.length rv.length b = true → (Bx st.bx (HI (nu ls ns) ls lent ch (newB (nu ls ns) ns rv)) (nu ls ns b)).isSome = true := by
   intro b hb
   unfold Hu at hb
   split at hb
   ·rename_i h
    obtain ⟨k, _, rfl⟩ := Iq h
    rw [Nat.blt_eq] at hb
    have hk : k < lent.length := by omega
    rw [F2 (by omega), hbg.2 k _ (show lent[k]? = some lent[k] by simp [hk])]; rfl
   ·rename_i h
    rw [Nat.blt_eq] at hb
    have hni : nm ns b ∉ ls := fun hm => hlsns _ hm (EF (by omega))
    rw [KN (by omega), hbg.1 _ hni, (hng (nm ns b)).2 b _ (show rv[b]? = some rv[b] by simp [hb])]; rfl
  have hren : ∀ l : List Nat, IA lent.length rv.length l = true → ∀ b, b ∈ l → Hu lent.length rv.length b = true := fun l h b hb => List.all_eq_true.1 h b hb
  have hrenB : ∀ (k : BE) b, b ∈ (k.ren (nu ls ns)).names → ∃ b0, b0 ∈ k.names ∧ b = nu ls ns b0 := by
   intro k b hb
   cases k with
   | box cs =>
    obtain ⟨c, hc, hb⟩ := Bl.1 hb
    obtain ⟨c0, h0, rfl⟩ := List.mem_map.1 hc
    obtain ⟨b0, h1, h2⟩ := I8 hb
    exact ⟨b0, Bl.2 ⟨c0, h0, h1⟩, h2⟩
   | vec e rows => cases hb
   | mp es => cases hb
   | dvec e cols rs => cases hb
   | hol e cols i0 k0 c rs => exact ⟨c, by simp [BE.names], by simpa [BE.ren, BE.names] using hb⟩
   | gone => cases hb
  have hhasN : ∀ m β, m < ns.length → (G2.has (nm ns m) β ↔ G'.has m β) := fun m β hm => by
   have hmd : Hu lent.length rv.length m = true := by
    unfold Hu; rw [H9 (show m < 90000 by omega) (Nat.le_refl _), if_neg (by simp), Nat.blt_eq]; omega
   have := hvia.has (β := β) hmd
   rwa [KN (by omega)] at this
  have key : Dc P X G2 ⟨st.env, Bx st.bx (HI (nu ls ns) ls lent ch (newB (nu ls ns) ns rv))⟩ a w' := by
   refine hs.frame (fun c hc => Mp hc) hext hwS ?_ ?_ ?_ ?_ ?_ ?_ (fun b hb => by
    have : b ∉ ns := fun hm => by rw [hndl.2 b hm] at hb; cases hb
    simp only [G2]; rw [if_neg this, if_neg this, if_neg this]; exact ⟨rfl, rfl, rfl⟩)
   ·intro c k hc
    rcases hblk c k hc with ⟨_, h0, h1⟩ | ⟨m, x, h1, h2, h3, h4⟩ | ⟨m, x, h1, h2, h3, h4⟩
    ·refine .inl ⟨h1, fun β hr hβ => hbel.block β (hs.at_ok c k β h1 hr hβ).2.1 fun hL => ?_⟩
     obtain ⟨j, hj, hg⟩ := hnotL β hL
     exact h0 ((hs.at_inj _ _ _ _ β h1 (hlk j hj).1 hr (hlk j hj).2 hβ hg) ▸ EF (by omega))
    ·subst h4
     have hmd : Hu lent.length rv.length m = true := by
      unfold Hu; rw [H9 (show m < 90000 by omega) (Nat.le_refl _), if_neg (by simp), Nat.blt_eq]; omega
     have hxn := hren _ (List.all_eq_true.1 hnmV x (lM h3))
     refine .inr ⟨?_, fun c' hc' => ?_⟩
     ·have := (hvec m x h3).ren hvia hmd hxn
      rwa [KN (by omega), h2] at this
     ·obtain ⟨b0, hb0, rfl⟩ := hrenB x c' hc'
      exact hdom b0 (hxn b0 hb0)
    ·subst h4
     have hmd : Hu lent.length rv.length (90000 + m) = true := by
      unfold Hu; rw [Hd (by omega), if_pos rfl, Nat.blt_eq]; omega
     have hxn := hren _ (List.all_eq_true.1 hnmL x (lM h3))
     refine .inr ⟨?_, fun c' hc' => ?_⟩
     ·have := (hpost m x h3).ren hvia hmd hxn
      rwa [F2 (by omega), h2] at this
     ·obtain ⟨b0, hb0, rfl⟩ := hrenB x.2 c' hc'
      exact hdom b0 (hxn b0 hb0)
   ·intro c k β hc hr hβ
    rcases hblk c k hc with ⟨h0, _, h1⟩ | ⟨m, x, h1, h2, h3, h4⟩ | ⟨m, x, h1, h2, h3, h4⟩
    ·have hβ := (hext.has (by rw [h1]; rfl)).1 hβ
     have := hs.at_ok c k β h1 hr hβ
     refine ⟨this.1, by omega, fun h => ?_⟩
     rcases hS2 β h with h | h
     ·exact this.2.2 h
     ·omega
    ·rw [← h2, hhasN m β h1] at hβ
     have := hvat m β (by omega) hβ
     exact ⟨.new (by omega), this.2.1, this.2.2⟩
    ·subst h2
     have h5 := hlk m (by omega)
     have hβ := (hext.has (by rw [h5.1]; rfl)).1 hβ
     have := hs.at_ok _ _ β h5.1 h5.2 hβ
     refine ⟨this.1, by omega, hlS m β (by omega) ?_⟩
     have h6 := hsame m (by omega)
     unfold Gh.has at hβ ⊢
     rw [h6.1, h6.2.2]
     simp only [Gc]; rw [F2 (by omega)]; exact hβ
   ·intro c c' k k' β hc hc' hr hr' hβ hβ'
    have old : ∀ c k, Bx st.bx (HI (nu ls ns) ls lent ch (newB (nu ls ns) ns rv)) c = some k → k.real = true → G2.has c β → (∃ k0, st.bx c = some k0 ∧ k0.real = true ∧ G.has c β) ∨ ∃ m, m < ns.length ∧ nm ns m = c ∧ G'.has m β := by
     intro c k hc hr hβ
     rcases hblk c k hc with ⟨h0, _, h1⟩ | ⟨m, x, h1, h2, h3, h4⟩ | ⟨m, x, h1, h2, h3, h4⟩
     ·exact .inl ⟨k, h1, hr, (hext.has (by rw [h1]; rfl)).1 hβ⟩
     ·rw [← h2, hhasN m β h1] at hβ
      exact .inr ⟨m, h1, h2, hβ⟩
     ·subst h2
      have h5 := hlk m (by omega)
      exact .inl ⟨_, h5.1, h5.2, (hext.has (by rw [h5.1]; rfl)).1 hβ⟩
    rcases old c k hc hr hβ with ⟨k0, h1, h2, h3⟩ | ⟨m, h1, h2, h3⟩ <;> rcases old c' k' hc' hr' hβ' with ⟨k0', h1', h2', h3'⟩ | ⟨m', h1', h2', h3'⟩
    ·exact hs.at_inj c c' k0 k0' β h1 h1' h2 h2' h3 h3'
    ·have h5 := hvat m' β (by omega) h3'
     have h6 := (hs.at_ok c k0 β h1 h2 h3).2.1
     omega
    ·have h5 := hvat m β (by omega) h3
     have h6 := (hs.at_ok c' k0' β h1' h2' h3').2.1
     omega
    ·have := hvinj m m' β (by omega) (by omega) h3 h3'
     rw [← h2, ← h2', this]
   ·intro β h
    rcases hS2 β h with h | h
    ·have := hs.S_lt β h; omega
    ·exact h.2
   ·intro β h
    rcases hS2 β h with h | h
    ·exact hs.S_src β h
    ·exact .inr (by omega)
   ·refine hs.below.trans ⟨hbel.os, hbel.tape, hbel.output, hbel.size, fun k hk hnl => hbel.block k (by omega) fun hL => ?_⟩
    obtain ⟨j, hj, hg⟩ := hnotL k hL
    rcases (hs.at_ok _ _ k (hlk j hj).1 (hlk j hj).2 hg).1.2 with h | h
    ·omega
    ·exact hnl h
  refine hK _ _ ⟨G2, key.put (some s) (some (res.ren (nu ls ns))) v (by intro t e; cases e; exact hn) ?_⟩
  rintro d ⟨⟩
  refine ⟨hres'.ren hvia (hren _ hnmR), fun b hb => ?_⟩
  obtain ⟨b0, h1, h2⟩ := IY hb
  rw [h2]
  exact hdom b0 (hren _ hnmR b0 h1)
end run
end Go.Lift
namespace Go.Lift
open List renaming mem_of_getElem? → lM
open Go.RowKit
variable {P : Program} {X : Ic} {ops : Array Oper}
def Hb {α : Type} (xs : List α) (q : Nat) (ys : List α) : List α := xs.take q ++ ys ++ xs.drop (q + ys.length)
theorem Ix {α : Type} {xs ys : List α} {q : Nat} (h : q + ys.length ≤ xs.length) : (Hb xs q ys).length = xs.length := by
 unfold Hb; simp; omega
theorem Qg {α : Type} {xs ys : List α} {q : Nat} (h : q + ys.length ≤ xs.length) (i : Nat) : (Hb xs q ys)[i]? = if q ≤ i ∧ i < q + ys.length then ys[i - q]? else xs[i]? := by
 unfold Hb
 by_cases h1 : i < q
 ·rw [if_neg (by omega), List.append_assoc, List.getElem?_append_left (by simp; omega), List.getElem?_take_of_lt h1]
 ·by_cases h2 : i < q + ys.length
  ·rw [if_pos (by omega), List.getElem?_append_left (by simp; omega), List.getElem?_append_right (by simp; omega)]
   congr 1; simp; omega
  ·rw [if_neg (by omega), List.getElem?_append_right (by simp; omega), List.getElem?_drop]
   congr 1; simp; omega
theorem Qq {α β : Type} (f : α → β) (xs ys : List α) (q : Nat) : Hb (xs.map f) q (ys.map f) = (Hb xs q ys).map f := by
 unfold Hb; simp
inductive Ln : D → Nat → Nat → List (List T) → Nat → Nat → Prop where
 | own (b e : Nat) (rows : List (List T)) : Ln (.e (.one (.own b))) b e rows 0 rows.length
 | view (b e : Nat) (rows : List (List T)) (lo len : Nat) (h : lo + len ≤ rows.length) : Ln (.e (.one (.view b e lo len))) b e rows lo len
inductive ML : D → List (Nat × BE) → Nat → List (List T) → Prop where
 | of {d : D} {rb : List (Nat × BE)} {e : Nat} {rows : List (List T)} (h : Vf d rb e rows) : ML d rb e rows
 | view (b e : Nat) (rows : List (List T)) (lo len : Nat) (h : lo + len ≤ rows.length) : ML (.e (.one (.view b e lo len))) [(b, .vec e rows)] e ((rows.drop lo).take len)
theorem NB (q : Addr) : q.add 0 = q := by unfold Addr.add; simp
theorem LD {G : Gh} {w : World} {b e : Nat} {rows : List (List T)} (h : EO P w G b (.vec e rows)) : ∃ a cap, G.hd b = .slice a rows.length cap ∧ rows.length ≤ cap ∧
  (0 < cap → ∃ β arr el, a = some ⟨β, 0, none⟩ ∧ G.loc b = some β ∧ w.heap[β]? = some (.cells arr el (0, 0)) ∧ arr.size = cap * e ∧ Dw w G.S arr e 0 rows) := by
 rcases h with ⟨a, h1, h2, _⟩ | ⟨β, cap, arr, el, h0, h1, h2, h3, h4, h5, h6⟩
 ·subst h2; exact ⟨a, 0, h1, Nat.le_refl _, fun h => by cases h⟩
 ·exact ⟨_, cap, h1, h3, fun _ => ⟨β, arr, el, rfl, h0, h2, h4, by rw [h4, Nat.zero_add]; exact Nat.mul_le_mul_right e h3, h5, fun i row j t hi hj => by rw [Nat.zero_add]; exact h6 i row j t hi hj⟩⟩
section run
variable {dr : Bool} {Q : St → Prop} {r i : Nat} {st : St} {log : List (Nat × CR)} {o : Oper} {gs : List (Operand × D)}
theorem Dc.dstV {G : Gh} {a : Act} {w : World} (hs : Dc P X G st a w) {x : Operand} {d : D} {b e lo len : Nat} {rows : List (List T)} (hx : Lift.opd st.env x = some d) (h : Ln d b e rows lo len) (hb : st.bx b = some (.vec e rows)) :
  ∃ p cap', a.eval x = .slice p len cap' ∧ rows.length - lo ≤ cap' ∧ lo + len ≤ rows.length ∧
   (lo < rows.length → ∃ β cap arr el, G.loc b = some β ∧ G.hd b = .slice (some ⟨β, 0, none⟩) rows.length cap ∧ rows.length ≤ cap ∧ p = some ⟨β, lo * e, none⟩ ∧ w.heap[β]? = some (.cells arr el (0, 0)) ∧ arr.size = cap * e ∧ Dw w G.S arr e 0 rows) := by
 obtain ⟨a0, cap, h1, h2, h3⟩ := LD (hs.blk b _ hb)
 have hR := hs.opd hx
 cases h with
 | own =>
  obtain ⟨hR, _⟩ : EV P w G (a.eval x) (.own b) := hR
  refine ⟨a0, cap, hR.trans h1, by omega, by omega, fun hlt => ?_⟩
  obtain ⟨β, arr, el, g1, g2, g3, g4, g5⟩ := h3 (by omega)
  subst g1
  exact ⟨β, cap, arr, el, g2, h1, h2, by simp, g3, g4, g5⟩
 | view _ _ _ _ _ h =>
  obtain ⟨a1, n1, cap1, p, k1, k2, k3, k4⟩ : EV P w G (a.eval x) (.view b e lo len) := hR
  rw [h1] at k1
  cases k1
  refine ⟨p, cap - lo, k3, by omega, h, fun hlt => ?_⟩
  obtain ⟨β, arr, el, g1, g2, g3, g4, g5⟩ := h3 (by omega)
  subst g1
  refine ⟨β, cap, arr, el, g2, h1, h2, ?_, g3, g4, g5⟩
  rw [k4 (by omega)]
  simp [Addr.add_mk]
theorem Dc.srcW {G : Gh} {a : Act} {w : World} (hs : Dc P X G st a w) {x : Operand} {d : D} {rb : List (Nat × BE)} {e : Nat} {rows : List (List T)} (hx : Lift.opd st.env x = some d) (h : ML d rb e rows) (hb : GQ st.bx rb) :
  ∃ p cap, a.eval x = .slice p rows.length cap ∧ (rows = [] ∨ ∃ β off arr el fz, p = some ⟨β, off, none⟩ ∧ w.heap[β]? = some (.cells arr el fz) ∧ Dw w G.S arr e off rows) := by
 cases h with
 | of h =>
  have hR := hs.opd hx
  cases h with
  | own b e rows =>
   obtain ⟨hR, _⟩ : EV P w G (a.eval x) (.own b) := hR
   obtain ⟨a0, cap, h1, h2, h3⟩ := LD (hs.blk b _ hb.1)
   refine ⟨a0, cap, hR.trans h1, ?_⟩
   cases rows with
   | nil => exact .inl rfl
   | cons y ys =>
    obtain ⟨β, arr, el, g1, g2, g3, g4, g5⟩ := h3 (by simp at h2; omega)
    exact .inr ⟨β, 0, arr, el, (0, 0), g1, g3, g5⟩
  | sl e rows hrow =>
   have hR : DC w G.S (a.eval x) (.sl rows) := hR
   generalize a.eval x = v at hR
   cases hR with
   | nil a' cap => exact ⟨_, _, rfl, .inl rfl⟩
   | sl β off cap e' arr el' fz rows h1 h2 h3 h4 h5 h6 =>
    refine ⟨_, _, rfl, ?_⟩
    cases rows with
    | nil => exact .inl rfl
    | cons r0 rs =>
     have he : e' = e := by rw [← hrow 0 r0 rfl]; exact (h5 0 r0 rfl).symm
     subst he
     exact .inr ⟨β, off, arr, el', fz, rfl, h2, h4, h5, h6⟩
  | nil e =>
   have hR : DC w G.S (a.eval x) .nil0 := hR
   generalize a.eval x = v at hR
   cases hR with
   | nil0 a' => exact ⟨_, _, rfl, .inl rfl⟩
 | view b _ rows lo len h =>
  obtain ⟨p, cap', h1, h2, h3, h4⟩ := hs.dstV hx (.view b e rows lo len h) hb.1
  have hlen : ((rows.drop lo).take len).length = len := by simp; omega
  refine ⟨p, cap', by rw [hlen]; exact h1, ?_⟩
  by_cases hz : len = 0
  ·exact .inl (by rw [hz, List.take_zero])
  ·obtain ⟨β, cap, arr, el, g1, g2, g3, g4, g5, g6, g7⟩ := h4 (by omega)
   refine .inr ⟨β, lo * e, arr, el, (0, 0), g4, g5, ?_, ?_, ?_⟩
   ·rw [hlen, g6, ← Nat.add_mul]; exact Nat.mul_le_mul_right e (by omega)
   ·intro i row hi
    have := AS hi
    rw [hlen] at this
    rw [List.getElem?_take_of_lt this, List.getElem?_drop] at hi
    exact g7.2.1 _ row hi
   ·intro i row j t hi hj
    have := AS hi
    rw [hlen] at this
    rw [List.getElem?_take_of_lt this, List.getElem?_drop] at hi
    have := g7.2.2 _ row j t hi hj
    rwa [Nat.zero_add, Nat.add_mul] at this
theorem Dw.take {w : World} {S : Nat → Prop} {arr : Array Value} {e off n : Nat} {rows : List (List T)} (h : Dw w S arr e off rows) : Dw w S arr e off (rows.take n) := by
 refine ⟨?_, ?_, ?_⟩
 ·have := h.1
  have h2 : (rows.take n).length * e ≤ rows.length * e := Nat.mul_le_mul_right e (by simp; omega)
  omega
 ·intro i row hi
  have := AS hi
  simp at this
  rw [List.getElem?_take_of_lt (by omega)] at hi
  exact h.2.1 i row hi
 ·intro i row j t hi hj
  have := AS hi
  simp at this
  rw [List.getElem?_take_of_lt (by omega)] at hi
  exact h.2.2 i row j t hi hj
theorem NY {w : World} {S : Nat → Prop} {p : Option Addr} {len cap e n : Nat} {rows : List (List T)} (hn : n ≤ rows.length) (h : rows = [] ∨ ∃ β off arr el fz, p = some ⟨β, off, none⟩ ∧ w.heap[β]? = some (.cells arr el fz) ∧ Dw w S arr e off rows) :
  ∃ news, (Builtin.firstCells e n (.slice p len cap)).run P w = .ok news w ∧ Dw w S news e 0 (rows.take n) ∧ news.size = n * e := by
 rcases h with h | ⟨β, off, arr, el, fz, h1, h2, h3⟩
 ·subst h
  have : n = 0 := by simpa using hn
  subst this
  obtain ⟨news, k1, k2, k3⟩ := EL (P := P) (w := w) (a := p) (len := len) (cap := cap) (e := e) (S := S)
  exact ⟨news, k1 w rfl, by simpa using k2, by simpa using k3⟩
 ·subst h1
  have hl : (rows.take n).length = n := by simp; omega
  obtain ⟨news, k1, k2, k3⟩ := Gg (P := P) (len := len) (cap := cap) h2 (h3.take (n := n))
  rw [hl] at k1 k3
  exact ⟨news, k1 w rfl, k2, k3⟩
theorem Or {G : Gh} {w : World} {b e β cap q : Nat} {rows rows2 : List (List T)} {arr news : Array Value} {el : TypeId} (hlt : β < w.heap.size) (hnS : ¬ G.S β) (h0 : G.loc b = some β) (h1 : G.hd b = .slice (some ⟨β, 0, none⟩) rows.length cap) (h3 : rows.length ≤ cap) (h4 : arr.size = cap * e) (h5 : Dw w G.S arr e 0 rows)
  (hn : Dw w G.S news e 0 rows2) (hns : news.size = rows2.length * e) (hq : q + rows2.length ≤ rows.length) :
  EO P (FZ w β (.cells (Fo arr (q * e) news.toList) el (0, 0))) G b (.vec e (Hb rows q rows2)) := by
 have hle : q * e + rows2.length * e ≤ cap * e := by rw [← Nat.add_mul]; exact Nat.mul_le_mul_right e (by omega)
 have hS : ∀ γ, G.S γ → (FZ w β (.cells (Fo arr (q * e) news.toList) el (0, 0))).heap[γ]? = w.heap[γ]? := fun γ hγ => by
  rw [D3, if_neg (fun (h : γ = β ∧ β < w.heap.size) => hnS (h.1 ▸ hγ))]
 have hrl : ∀ (i : Nat) (row : List T), (Hb rows q rows2)[i]? = some row → row.length = e := by
  intro i row hi
  rw [Qg hq] at hi
  split at hi
  ·exact hn.2.1 _ row hi
  ·exact h5.2.1 _ row hi
 refine .inr ⟨β, cap, Fo arr (q * e) news.toList, el, h0, by rw [Ix hq]; exact h1, by rw [D3, if_pos ⟨rfl, hlt⟩], by rw [Ix hq]; exact h3, by rw [Gv, h4], hrl, ?_⟩
 intro i row j t hi hj
 have hj' := AS hj
 have hre := hrl i row hi
 rw [Qg hq] at hi
 rw [E6 _ _ _ _ (by simp; omega)]
 simp only [Array.length_toList, hns]
 split at hi
 ·rename_i hin
  have hle2 : (i - q) * e + e ≤ rows2.length * e := by rw [← Nat.succ_mul]; exact Nat.mul_le_mul_right e (by omega)
  have hsp : i * e = q * e + (i - q) * e := by rw [← Nat.add_mul]; congr 1; omega
  rw [if_pos (by omega)]
  have := hn.2.2 _ row j t hi hj
  rw [Nat.zero_add] at this
  have h6 : (news.toList[i * e + j - q * e]?).getD undef = AE news ((i - q) * e + j) := by
   rw [show i * e + j - q * e = (i - q) * e + j from by omega]
   unfold AE; simp
  rw [h6]
  exact this.mono hS fun _ h => h
 ·rename_i hin
  rw [if_neg]
  ·have := h5.2.2 _ row j t hi hj
   rw [Nat.zero_add] at this
   exact this.mono hS fun _ h => h
  ·rintro ⟨k1, k2⟩
   by_cases hiq : i < q
   ·have : i * e + e ≤ q * e := by rw [← Nat.succ_mul]; exact Nat.mul_le_mul_right e hiq
    omega
   ·have : q * e + rows2.length * e ≤ i * e := by rw [← Nat.add_mul]; exact Nat.mul_le_mul_right e (by omega)
    omega
theorem Rd {x : Operand} {t el s e l h b lo0 len : Nat} {lo hi : Option Operand} {rl rh : List (Operand × D)} {rows : List (List T)} {d : D} (hat : At st.env ops i X.n (.slice t x lo hi none) s gs)
  (hx : opd st.env x = some d) (hD : Ln d b e rows lo0 len) (hb : st.bx b = some (.vec e rows)) (ht : sliceB P t el = true) (he : GD P el e = true) (hlo : Ra lo 0 l rl) (hhi : Ra hi len h rh) (h1 : E4 st.env rl) (h2 : E4 st.env rh) (hlh : l ≤ h) (hhl : lo0 + h ≤ rows.length)
  (next : Bs P X ops dr Q r (i + 1) (CR.upd ⟨gs ++ ((x, d) :: (rl ++ rh)), [(b, .vec e rows)], some s, some (.e (.one (.view b e (lo0 + l) (h - l)))), [], []⟩ st) ((i, ⟨gs ++ ((x, d) :: (rl ++ rh)), [(b, .vec e rows)], some s, some (.e (.one (.view b e (lo0 + l) (h - l)))), [], []⟩) :: log)) : Bs P X ops dr Q (r + 1) i st log := by
 obtain ⟨o, ho, hop, hd, hn, hg, hgp⟩ := hat.out
 refine Bs.step next ⟨Aw.2 ⟨hgp, hx, Aw.2 ⟨h1, h2⟩⟩, ⟨hb, trivial⟩, trivial⟩ (LR.value ho hg rfl hd.symm (Du hd hn) ?_)
 intro G st a w hs hpre
 obtain ⟨hx, h12⟩ := (Aw.1 hpre.r).2
 obtain ⟨h1, h2⟩ := Aw.1 h12
 have hb := hpre.b.1
 -- the header of the whole
 obtain ⟨a0, cap, k1, k2, k3⟩ := LD (hs.blk b _ hb)
 have hv : ∃ p, a.eval x = .slice p len (cap - lo0) ∧ lo0 + len ≤ rows.length ∧ (lo0 < cap → p = a0.map fun q => q.add (lo0 * e)) := by
  have hR := hs.opd hx
  cases hD with
  | own =>
   obtain ⟨hR, _⟩ : EV P w G (a.eval x) (.own b) := hR
   exact ⟨a0, hR.trans k1, by omega, fun _ => by cases a0 <;> simp [NB]⟩
  | view _ _ _ _ _ h' =>
   obtain ⟨a1, n1, cap1, p, g1, g2, g3, g4⟩ : EV P w G (a.eval x) (.view b e lo0 len) := hR
   rw [k1] at g1; cases g1
   exact ⟨p, g3, h', g4⟩
 obtain ⟨p, hv1, hv2, hv3⟩ := hv
 refine ⟨.slice (if cap - lo0 = l then p else p.map (·.add (l * e))) (h - l) (cap - lo0 - l), w, G, ?_, hs, ?_⟩
 ·simp only [execOp, hop]
  refine Ar (a := .slice (if cap - lo0 = l then p else p.map (·.add (l * e))) (h - l) (cap - lo0 - l)) (w1 := w) ?_ rfl
  rw [hv1]
  exact I9 (a := a) hs ht he hlo hhi h1 h2 hlh (by omega)
 ·rintro d' ⟨⟩
  refine ⟨⟨a0, rows.length, cap, _, k1, by omega, by rw [show cap - lo0 - l = cap - (lo0 + l) from by omega], fun hlt => ?_⟩, fun b' hb' => ?_⟩
  ·rw [if_neg (by omega), hv3 (by omega)]
   obtain ⟨β, arr, el', g1, _⟩ := k3 (by omega)
   subst g1
   simp only [Option.map_some, Addr.add_mk, Nat.add_mul, Nat.zero_add]
  ·simp [D.names, E.names, C.names] at hb'
   subst hb'
   simp [Bx, hb]
theorem U3 {x : Operand} {s t el b e lo len : Nat} (hat : At st.env ops i X.n (.call ⟨.builtin .len, #[x], #[t]⟩) s gs)
  (hx : opd st.env x = some (.e (.one (.view b e lo len)))) (ht : sliceB P t el = true)
  (next : Bs P X ops dr Q r (i + 1) (CR.upd ⟨gs ++ [(x, .e (.one (.view b e lo len)))], [], some s, some (vD (goInt len)), [], []⟩ st) ((i, ⟨gs ++ [(x, .e (.one (.view b e lo len)))], [], some s, some (vD (goInt len)), [], []⟩) :: log)) : Bs P X ops dr Q (r + 1) i st log := by
 obtain ⟨o, ho, hop, hd, hn, hg, hgp⟩ := hat.out
 refine Bs.step next ⟨Aw.2 ⟨hgp, hx, trivial⟩, trivial, trivial⟩ (LR.value ho hg rfl hd.symm (Du hd hn) ?_)
 intro G st a w hs hpre
 obtain ⟨hx, _⟩ := (Aw.1 hpre.r).2
 obtain ⟨a1, n1, cap1, p, k1, k2, k3, k4⟩ : EV P w G (a.eval x) (.view b e lo len) := hs.opd hx
 refine ⟨goInt len, w, G, ?_, hs, ?_⟩
 ·simp only [execOp, hop]
  refine Fe fun cs => ?_
  simp only [List.map_toArray, List.map_cons, List.map_nil, builtin, k3]
  exact Ar (Kj ht) rfl
 ·rintro d ⟨⟩
  exact ⟨.val _ rfl, fun b hb => by cases hb⟩
theorem Ri {x y : Operand} {s e b lo len : Nat} {rows : List (List T)} {row : List T} {t el : TypeId} {k : IntKind} {n : Int} (hat : At st.env ops i X.n (.indexAddr t x y) s gs)
  (hx : opd st.env x = some (.e (.one (.view b e lo len)))) (hle : lo + len ≤ rows.length) (hy : opd st.env y = some (vD (.int k n))) (hb : st.bx b = some (.vec e rows)) (ht : sliceB P t el = true) (hz : GD P el e = true) (h0 : 0 ≤ n) (hn1 : n.toNat < len)
  (next : Bs P X ops dr Q r (i + 1) (CR.upd ⟨gs ++ [(x, .e (.one (.view b e lo len))), (y, vD (.int k n))], [(b, .vec e rows)], some s, some (.e (.one (.eptr b e (lo + n.toNat) 0))), [], []⟩ st) ((i, ⟨gs ++ [(x, .e (.one (.view b e lo len))), (y, vD (.int k n))], [(b, .vec e rows)], some s, some (.e (.one (.eptr b e (lo + n.toNat) 0))), [], []⟩) :: log)) : Bs P X ops dr Q (r + 1) i st log := by
 obtain ⟨o, ho, hop, hd, hn, hg, hgp⟩ := hat.out
 refine Bs.step next ⟨Aw.2 ⟨hgp, hx, hy, trivial⟩, ⟨hb, trivial⟩, trivial⟩ (LR.value ho hg rfl hd.symm (Du hd hn) ?_)
 intro G st a w hs hpre
 obtain ⟨hx, hy, _⟩ := (Aw.1 hpre.r).2
 have hb := hpre.b.1
 obtain ⟨p, cap', h1, h2, h3, h4⟩ := hs.dstV hx (.view b e rows lo len hle) hb
 have hY : a.eval y = .int k n := Ee (hs.opd hy : DC w G.S (a.eval y) (.val _))
 obtain ⟨β, cap, arr, el', g1, g2, g3, g4, g5, g6, g7⟩ := h4 (by omega)
 subst g4
 refine ⟨_, w, G, by simp only [execOp, hop, h1, hY]; exact Ar (I7 ht hz h0 hn1) rfl, hs, ?_⟩
 rintro d ⟨⟩
 exact ⟨⟨β, g1, by simp [Nat.add_mul]⟩, fun b' hb' => hs.opd_live hx b' (by simpa [D.names, E.names, C.names] using hb')⟩
theorem Rz {t t2 el e : Nat} {w : World} {p p2 : Option Addr} {dl dc n2 c2 : Nat} {news : Array Value} {ty : TypeId} (ht : sliceB P t el = true) (he : GD P el e = true) (hnew : (Builtin.firstCells e (Nat.min n2 dl) (.slice p2 n2 c2)).run P w = .ok news w) {w' : World}
  (hst : ∀ q, p = some q → (storeCells q news.toList).run P w = .ok () w') (hno : p = none → w' = w) : (Builtin.copy_ #[t, t2] ty #[.slice p dl dc, .slice p2 n2 c2]).run P w = .ok (goInt (Nat.min n2 dl)) w' := by
 unfold sliceB at ht
 split at ht
 ·rename_i e' hu
  have : e' = el := by simpa using ht
  subst this
  unfold Builtin.copy_
  refine Ar (AU hu w) ?_
  refine Ar (a := n2) (w1 := w) rfl ?_
  refine Ar (En he w) ?_
  refine Ar hnew ?_
  cases p with
  | none => rw [hno rfl]; rfl
  | some q => exact Ar (hst q rfl) rfl
 ·cases ht
theorem Uw {x y : Operand} {t t2 el s e b lo len : Nat} {d d2 : D} {rb2 : List (Nat × BE)} {rows rows2 rows' : List (List T)} (hat : At st.env ops i X.n (.call ⟨.builtin .copy, #[x, y], #[t, t2]⟩) s gs)
  (hx : opd st.env x = some d) (hD : Ln d b e rows lo len) (hb : st.bx b = some (.vec e rows)) (hy : opd st.env y = some d2) (hS : ML d2 rb2 e rows2) (hb2 : GQ st.bx rb2) (ht : sliceB P t el = true) (he : GD P el e = true) (hr : Hb rows lo (rows2.take (Nat.min rows2.length len)) = rows')
  (next : Bs P X ops dr Q r (i + 1) (CR.upd ⟨gs ++ [(x, d), (y, d2)], (b, .vec e rows) :: rb2, some s, some (vD (goInt (Nat.min rows2.length len))), [(b, .vec e rows')], []⟩ st) ((i, ⟨gs ++ [(x, d), (y, d2)], (b, .vec e rows) :: rb2, some s, some (vD (goInt (Nat.min rows2.length len))), [(b, .vec e rows')], []⟩) :: log)) : Bs P X ops dr Q (r + 1) i st log := by
 obtain ⟨o, ho, hop, hd, hn, hg, hgp⟩ := hat.out
 refine Bs.step next ⟨Aw.2 ⟨hgp, hx, hy, trivial⟩, ⟨hb, hb2⟩, trivial⟩ (LR.value ho hg rfl hd.symm (Du hd hn) ?_)
 intro G st a w hs hpre
 obtain ⟨hx, hy, _⟩ := (Aw.1 hpre.r).2
 obtain ⟨hb, hb2⟩ := hpre.b
 subst hr
 obtain ⟨p, cap', h1, h2, h3, h4⟩ := hs.dstV hx hD hb
 obtain ⟨p2, cap2, k1, k2⟩ := hs.srcW hy hS hb2
 have hmin : Nat.min rows2.length len ≤ rows2.length := Nat.min_le_left _ _
 have hmin2 : Nat.min rows2.length len ≤ len := Nat.min_le_right _ _
 obtain ⟨news, n1, n2, n3⟩ := NY (P := P) (len := rows2.length) (cap := cap2) hmin k2
 have hl2 : (rows2.take (Nat.min rows2.length len)).length = Nat.min rows2.length len := by rw [List.length_take]; exact Nat.min_eq_left hmin
 have hrun : ∀ w', (∀ q, p = some q → (storeCells q news.toList).run P w = .ok () w') → (p = none → w' = w) → (execOp a.eval o).run P w = .ok (.value (goInt (Nat.min rows2.length len))) w' := fun w' g1 g2 => by
  simp only [execOp, hop]
  refine Fe fun cs => ?_
  simp only [List.map_toArray, List.map_cons, List.map_nil, builtin, h1, k1]
  exact Ar (Rz ht he n1 g1 g2) rfl
 have fin : ∀ d', some (vD (goInt (Nat.min rows2.length len))) = some d' → ∀ w' (G' : Gh), F7 P w' G' (goInt (Nat.min rows2.length len)) d' ∧ ∀ c, c ∈ d'.names → (Bx st.bx [(b, .vec e (Hb rows lo (rows2.take (Nat.min rows2.length len))))] c).isSome = true := fun d' hd' w' G' => by
  cases hd'; exact ⟨.val _ rfl, fun c hc => by cases hc⟩
 by_cases hlt : lo < rows.length
 ·obtain ⟨β, cap, arr, el', g1, g2, g3, g4, g5, g6, g7⟩ := h4 hlt
  subst g4
  have hat := hs.at_ok b _ β hb rfl (.inl g1)
  have hle : lo * e + Nat.min rows2.length len * e ≤ arr.size := by rw [g6, ← Nat.add_mul]; exact Nat.mul_le_mul_right e (by omega)
  have hst := E9 (P := P) (β := β) (el := el') news.toList w (lo * e) 0 arr g5 (by simp [n3]; omega) (Dw.ones n2 (by rw [n3, hl2]))
  rw [Nat.add_zero] at hst
  refine ⟨_, _, G, hrun _ (fun q hq => by cases hq; exact hst) (fun h => by cases h), ?_, fun d' hd' => fin d' hd' _ _⟩
  exact hs.setB (b := b) (k0 := .vec e rows) hb rfl rfl (.inl g1) (Or hat.2.1 hat.2.2 g1 g2 g3 g6 g7 n2 (by rw [n3, hl2]) (by rw [hl2]; omega)) (fun c hc => by cases hc)
 ·have hz : Nat.min rows2.length len = 0 := by omega
  have hn0 : news.toList = [] := List.eq_nil_of_length_eq_zero (by simp [n3, hz])
  have hsp : Hb rows lo (rows2.take (Nat.min rows2.length len)) = rows := by
   have : lo = rows.length := by omega
   rw [hz]; unfold Hb; simp [this]
  refine ⟨_, w, G, hrun w (fun q _ => by rw [hn0]; rfl) (fun _ => rfl), ?_, fun d' hd' => fin d' hd' _ _⟩
  have : (⟨st.env, Bx st.bx [(b, .vec e (Hb rows lo (rows2.take (Nat.min rows2.length len))))]⟩ : St) = st := by
   refine St.ext (fun _ => rfl) fun c => ?_
   simp only [Bx]
   split
   ·rename_i e1; rw [e1, hsp, hb]
   ·rfl
  rw [this]; exact hs
theorem Mo {w : World} {S : Nat → Prop} {z : Value} {zs : List Value} {e n : Nat} (hzs : z.cells.toList = zs) (hz1 : zs.all F6 = true) (hze : zs.length = e) : Dw w S (Builtin.zeroCells z.cells n) e 0 (List.replicate n (zs.map fun v => (T.of v).nrm)) ∧ (Builtin.zeroCells z.cells n).size = n * e := by
 have hsz : z.cells.size = e := by rw [← hze, ← hzs]; simp
 have hsize : (Builtin.zeroCells z.cells n).size = n * e := by unfold Builtin.zeroCells; simp [hsz]
 refine ⟨⟨by rw [hsize]; simp, ?_, ?_⟩, hsize⟩
 ·intro i row hi
  rw [List.getElem?_replicate] at hi
  split at hi
  ·cases hi; simp [hze]
  ·cases hi
 ·intro i row j t hi hj
  rw [List.getElem?_replicate] at hi
  split at hi
  ·rename_i hlt
   cases hi
   rw [List.getElem?_map] at hj
   cases hv : zs[j]? with
   | none => rw [hv] at hj; cases hj
   | some v =>
    rw [hv] at hj; cases hj
    have hj' : j < e := by rw [← hze]; exact AS hv
    have hle : i * e + e ≤ n * e := by rw [← Nat.succ_mul]; exact Nat.mul_le_mul_right e hlt
    have hc : AE (Builtin.zeroCells z.cells n) (0 + i * e + j) = v := by
     unfold AE Builtin.zeroCells
     rw [Nat.zero_add, hsz]
     have h1 : i * e + j < n * e := by omega
     rw [Array.getElem?_map, show (Array.range (n * e))[i * e + j]? = some (i * e + j) from by simp [h1]]
     simp only [Option.map_some, Option.getD_some]
     have h2 : (i * e + j) % e = j := by rw [Nat.add_comm, Nat.add_mul_mod_self_right, Nat.mod_eq_of_lt hj']
     rw [h2]
     have h3 : z.cells[j]? = some v := by rw [← Array.getElem?_toList, hzs]; exact hv
     show z.cells[j]! = v
     rw [Array.getElem!_eq_getD, Array.getD_eq_getD_getElem?, h3]; rfl
    rw [hc]
    exact (DC.of (List.all_eq_true.1 hz1 v (lM hv))).nrm
  ·cases hi
theorem Rq {x : Operand} {t el b e lo len : Nat} {z : Value} {zs : List Value} {d : D} {rows rows' : List (List T)} (hop0 : OZ ops i = some (.call ⟨.builtin .clear, #[x], #[t]⟩))
  (hx : opd st.env x = some d) (hD : Ln d b e rows lo len) (hb : st.bx b = some (.vec e rows)) (ht : sliceB P t el = true) (hz : D8 P el = some z) (hzs : z.cells.toList = zs) (hz1 : zs.all F6 = true) (hze : zs.length = e)
  (hr : Hb rows lo (List.replicate len (zs.map fun v => (T.of v).nrm)) = rows')
  (next : Bs P X ops dr Q r (i + 1) (CR.upd ⟨[(x, d)], [(b, .vec e rows)], none, none, [(b, .vec e rows')], []⟩ st) ((i, ⟨[(x, d)], [(b, .vec e rows)], none, none, [(b, .vec e rows')], []⟩) :: log)) : Bs P X ops dr Q (r + 1) i st log := by
 obtain ⟨o, ho, hop, hd, hgn⟩ := Lv hop0
 have hg : RI ops o [] := .none hgn
 refine Bs.step next ⟨⟨hx, trivial⟩, ⟨hb, trivial⟩, trivial⟩ (LR.value (rs := [(x, d)]) ho hg rfl hd.symm (fun s h => by rw [hd] at h; cases h) ?_)
 intro G st a w hs hpre
 have hx := hpre.r.1
 have hb := hpre.b.1
 subst hr
 obtain ⟨p, cap', h1, h2, h3, h4⟩ := hs.dstV hx hD hb
 obtain ⟨n2, n3⟩ := Mo (w := w) (S := G.S) (n := len) hzs hz1 hze
 have hl2 : (List.replicate len (zs.map fun v => (T.of v).nrm)).length = len := by simp
 have hrun : ∀ w', (len ≠ 0 → ∃ q, p = some q ∧ (storeCells q (Builtin.zeroCells z.cells len).toList).run P w = .ok () w') → (len = 0 → w' = w) → (execOp a.eval o).run P w = .ok (.value (.tuple #[])) w' := fun w' g1 g2 => by
  simp only [execOp, hop]
  refine Fe fun cs => ?_
  simp only [List.map_toArray, List.map_cons, List.map_nil, builtin, h1]
  refine Ar (a := .tuple #[]) (w1 := w') ?_ rfl
  unfold sliceB at ht
  split at ht
  ·rename_i e' hu
   have : e' = el := by simpa using ht
   subst this
   unfold Builtin.clear_
   refine Ar (AU hu w) ?_
   by_cases hz0 : len = 0
   ·rw [g2 hz0]
    subst hz0
    cases p <;> rfl
   ·obtain ⟨q, hq, hst⟩ := g1 hz0
    subst hq
    obtain ⟨len', rfl⟩ : ∃ m, len = m + 1 := ⟨len - 1, (Nat.succ_pred_eq_of_pos (Nat.pos_of_ne_zero hz0)).symm⟩
    refine Ar (EU hz w) ?_
    exact Ar hst rfl
  ·cases ht
 have fin : ∀ (d' : D), (none : Option D) = some d' → ∀ w', F7 P w' G (.tuple #[]) d' ∧ ∀ c, c ∈ d'.names → (Bx st.bx [(b, .vec e (Hb rows lo (List.replicate len (zs.map fun v => (T.of v).nrm))))] c).isSome = true := fun d' hd' => by cases hd'
 by_cases hz0 : len = 0
 ·have hsp : Hb rows lo (List.replicate len (zs.map fun v => (T.of v).nrm)) = rows := by rw [hz0]; unfold Hb; simp
  refine ⟨_, w, G, hrun w (fun h => (h hz0).elim) (fun _ => rfl), ?_, fun d' hd' => fin d' hd' _⟩
  have : (⟨st.env, Bx st.bx [(b, .vec e (Hb rows lo (List.replicate len (zs.map fun v => (T.of v).nrm))))]⟩ : St) = st := by
   refine St.ext (fun _ => rfl) fun c => ?_
   simp only [Bx]
   split
   ·rename_i e1; rw [e1, hsp, hb]
   ·rfl
  rw [this]; exact hs
 ·have hlr : lo < rows.length := Nat.lt_of_lt_of_le (Nat.lt_add_of_pos_right (Nat.pos_of_ne_zero hz0)) h3
  obtain ⟨β, cap, arr, el', g1, g2, g3, g4, g5, g6, g7⟩ := h4 hlr
  subst g4
  have hat := hs.at_ok b _ β hb rfl (.inl g1)
  have hle : lo * e + len * e ≤ arr.size := by rw [g6, ← Nat.add_mul]; exact Nat.mul_le_mul_right e (by omega)
  have hst := E9 (P := P) (β := β) (el := el') (Builtin.zeroCells z.cells len).toList w (lo * e) 0 arr g5 (by simp [n3]; omega) (Dw.ones n2 (by rw [n3, hl2]))
  rw [Nat.add_zero] at hst
  refine ⟨_, _, G, hrun _ (fun _ => ⟨_, rfl, hst⟩) (fun h => (hz0 h).elim), ?_, fun d' hd' => fin d' hd' _⟩
  exact hs.setB (b := b) (k0 := .vec e rows) hb rfl rfl (.inl g1) (Or hat.2.1 hat.2.2 g1 g2 g3 g6 g7 n2 (by rw [n3, hl2]) (by rw [hl2]; exact h3)) (fun c hc => by cases hc)
end run
theorem Q4 {st : St} (s b e : Nat) (rows : List (List T)) (hs0 : st.env s = some (.e (.one (.own b)))) (hb : st.bx b = some (.vec e rows)) : FR P X st (St.put st (some s) (some (.e (.one (.view b e 0 rows.length))))) := by
 rintro a w ⟨G, h⟩
 obtain ⟨a0, cap, k1, k2, k3⟩ := LD (h.blk b _ hb)
 obtain ⟨hR, _⟩ : EV P w G (AE a.tmps s) (.own b) := h.env s _ hs0
 refine ⟨G, { h with env := ?_, live := ?_, blk := h.blk, at_ok := h.at_ok, at_inj := h.at_inj, liveB := h.liveB, nlt := h.nlt, lent := h.lent }⟩
 ·intro t d ht
  simp only [St.put] at ht
  split at ht
  ·rename_i e2; cases ht
   rw [e2]
   exact ⟨a0, rows.length, cap, a0, k1, by omega, by rw [hR, k1]; rfl, fun _ => by cases a0 <;> simp [NB]⟩
  ·exact h.env t d ht
 ·intro t d ht c hc
  simp only [St.put] at ht
  split at ht
  ·cases ht
   simp [D.names, E.names, C.names] at hc
   subst hc
   show (st.bx c).isSome = true
   rw [hb]; rfl
  ·exact h.live t d ht c hc
theorem Sm {st : St} (s b n e len : Nat) (rows : List (List T)) (hs0 : st.env s = some (.e (.one (.view b e 0 len)))) (hb : st.bx b = some (.vec e rows)) (hn : st.bx n = none) (hlb : BY b = false) (hln : BY n = false) (hle : len ≤ rows.length) :
  FR P X st (St.put ⟨st.env, Bx st.bx [(n, .vec e (rows.take len)), (b, .gone)]⟩ (some s) (some (.e (.one (.own n))))) := by
 rintro a w ⟨G, h⟩
 have hnb : n ≠ b := fun e => by rw [e, hb] at hn; cases hn
 obtain ⟨a0, n1, cap, p, k1, k2, k3, k4⟩ : EV P w G (AE a.tmps s) (.view b e 0 len) := h.env s _ hs0
 obtain ⟨a1, cap1, g1, g2, g3⟩ := LD (h.blk b _ hb)
 rw [g1] at k1; cases k1
 -- the new ghost
 have hlen : (rows.take len).length = len := by rw [List.length_take]; exact Nat.min_eq_left hle
 have hbx : ∀ c, Bx st.bx [(n, BE.vec e (rows.take len)), (b, .gone)] c = if c = n then some (.vec e (rows.take len)) else if c = b then some .gone else st.bx c := fun c => rfl
 have hext : ∀ l v, G.ext (G.set n l v) (fun c => (st.bx c).isSome = true) := fun l v => Gh.set_ext _ _ _ _ (by simp [hn])
 have key : ∃ l v, AE a.tmps s = v ∧ (∃ q m c, v = .slice q m c) ∧ (∀ β, l = some β → G.loc b = some β) ∧ EO P w (G.set n l v) n (.vec e (rows.take len)) := by
  by_cases hc : 0 < cap
  ·obtain ⟨β, arr, el, q1, q2, q3, q4, q5⟩ := g3 hc
   subst q1
   refine ⟨some β, .slice (some ⟨β, 0, none⟩) len cap, ?_, ⟨_, _, _, rfl⟩, fun γ hγ => by cases hγ; exact q2, ?_⟩
   ·rw [k3, k4 hc]; simp [Addr.add_mk]
   ·refine .inr ⟨β, cap, arr, el, by simp [Gh.set], by simp [Gh.set, hlen], q3, by rw [hlen]; omega, q4, fun i row hi => (q5.take (n := len)).2.1 i row hi, fun i row j t hi hj => ?_⟩
    have := (q5.take (n := len)).2.2 i row j t hi hj
    rw [Nat.zero_add] at this
    exact this
  ·have hr0 : rows.length = 0 := by omega
   have hl0 : len = 0 := by omega
   have hc0 : cap = 0 := by omega
   refine ⟨none, .slice p 0 0, by rw [k3, hl0, hc0], ⟨_, _, _, rfl⟩, fun γ hγ => (by cases hγ), .inl ⟨p, by simp [Gh.set], by rw [hl0, List.take_zero], by simp [Gh.set]⟩⟩
 obtain ⟨l, v, hv1, hv2, hl, hblk⟩ := key
 have h1 : Dc P X (G.set n l v) ⟨st.env, Bx st.bx [(n, .vec e (rows.take len)), (b, .gone)]⟩ a w := by
  refine h.frame ?_ (hext l v) (fun _ _ => rfl) ?_ ?_ ?_ h.S_lt h.S_src h.below (Gh.set_lent _ _ hln)
  ·intro c hc; rw [hbx]; split
   ·rfl
   ·split
    ·rfl
    ·exact hc
  ·intro c k hc
   rw [hbx] at hc
   split at hc
   ·rename_i e2; subst e2; cases hc
    exact .inr ⟨hblk, fun c hc => by cases hc⟩
   ·split at hc
    ·cases hc; exact .inr ⟨trivial, fun c hc => by cases hc⟩
    ·exact .inl ⟨hc, fun _ _ _ => rfl⟩
  ·intro c k β hc hr hβ
   rw [hbx] at hc
   rw [Gh.set_has] at hβ
   split at hc
   ·rename_i e2; rw [if_pos e2] at hβ
    have h5 := h.at_ok b _ β hb rfl (.inl (hl β hβ))
    exact ⟨.new (h5.1.1 hlb), h5.2⟩
   ·rename_i e2; rw [if_neg e2] at hβ
    split at hc
    ·cases hc; cases hr
    ·exact h.at_ok c k β hc hr hβ
  ·intro c c' k k' β hc hc' hr hr' hβ hβ'
   rw [hbx] at hc hc'
   rw [Gh.set_has] at hβ hβ'
   have old : ∀ c k, (if c = n then some (BE.vec e (rows.take len)) else if c = b then some .gone else st.bx c) = some k → k.real = true → (if c = n then l = some β else G.has c β) → (c = n ∧ G.has b β) ∨ (c ≠ n ∧ c ≠ b ∧ st.bx c = some k ∧ G.has c β) := by
    intro c k hc hr hβ
    split at hc
    ·rename_i e2; rw [if_pos e2] at hβ; exact .inl ⟨e2, .inl (hl β hβ)⟩
    ·rename_i e2; rw [if_neg e2] at hβ
     split at hc
     ·cases hc; cases hr
     ·rename_i e3; exact .inr ⟨e2, e3, hc, hβ⟩
   rcases old c k hc hr hβ with ⟨h2, h3⟩ | ⟨h2, h3, h4, h5⟩ <;> rcases old c' k' hc' hr' hβ' with ⟨h2', h3'⟩ | ⟨h2', h3', h4', h5'⟩
   ·rw [h2, h2']
   ·exact (h3' (h.at_inj c' b _ _ β h4' hb hr' rfl h5' h3)).elim
   ·exact (h3 (h.at_inj c b _ _ β h4 hb hr rfl h5 h3')).elim
   ·exact h.at_inj c c' k k' β h4 h4' hr hr' h5 h5'
 refine ⟨G.set n l v, { h1 with env := ?_, live := ?_, blk := h1.blk, at_ok := h1.at_ok, at_inj := h1.at_inj, liveB := h1.liveB, nlt := h1.nlt, lent := h1.lent }⟩
 ·intro t d ht
  simp only [St.put] at ht
  split at ht
  ·rename_i e2; cases ht
   rw [e2, hv1]
   exact ⟨by simp [Gh.set], hv2⟩
  ·exact h1.env t d ht
 ·intro t d ht c hc
  simp only [St.put] at ht
  split at ht
  ·cases ht
   simp [D.names, E.names, C.names] at hc
   subst hc
   show (Bx st.bx [(c, .vec e (rows.take len)), (b, .gone)] c).isSome = true
   simp [Bx]
  ·exact h1.live t d ht c hc
end Go.Lift
namespace Go.Lift
open Go.RowKit
variable {P : Program} {X : Ic} {ops : Array Oper}
def RG (a b : Int) : Int := if b < a then b else a
def Q2 (a b : Int) : Int := if b > a then b else a
def QP (b : ByteArray) (i : Int) : Option Int := if 0 ≤ i then (b[i.toNat]?).map fun x => (x.toNat : Int) else none
theorem QN {β : Type} {b : ByteArray} {i : Int} {f : Int → Option β} {r : β} (h : (QP b i).bind f = some r) : ∃ x : UInt8, 0 ≤ i ∧ b[i.toNat]? = some x ∧ f (x.toNat : Int) = some r := by
 obtain ⟨x, h1, h2⟩ := bind_some h
 unfold QP at h1
 split at h1
 ·rename_i h0
  cases hx : b[i.toNat]? with
  | none => rw [hx] at h1; cases h1
  | some y => rw [hx] at h1; cases h1; exact ⟨y, h0, rfl, h2⟩
 ·cases h1
def HD (xs : List Int) : ByteArray := xs.foldl (fun s n => s.push (UInt8.ofNat n.toNat)) ByteArray.empty
section run
variable {dr : Bool} {Q : St → Prop} {r i : Nat} {st : St} {log : List (Nat × CR)} {o : Oper} {gs : List (Operand × D)}
theorem VH {x y : Operand} {t t2 s : Nat} {k k2 : IntKind} {a0 b0 : Int} (hat : At st.env ops i X.n (.call ⟨.builtin .min, #[x, y], #[t, t2]⟩) s gs)
  (hx : opd st.env x = some (vD (.int k a0))) (hy : opd st.env y = some (vD (.int k2 b0)))
  (next : Bs P X ops dr Q r (i + 1) (CR.upd ⟨gs ++ [(x, vD (.int k a0)), (y, vD (.int k2 b0))], [], some s, some (vD (.int k (RG a0 b0))), [], []⟩ st) ((i, ⟨gs ++ [(x, vD (.int k a0)), (y, vD (.int k2 b0))], [], some s, some (vD (.int k (RG a0 b0))), [], []⟩) :: log)) : Bs P X ops dr Q (r + 1) i st log := by
 obtain ⟨o, ho, hop, hd, hn, hg, hgp⟩ := hat.out
 refine Bs.step next ⟨Aw.2 ⟨hgp, hx, hy, trivial⟩, trivial, trivial⟩ (LR.value ho hg rfl hd.symm (Du hd hn) ?_)
 intro G st a w hs hpre
 obtain ⟨hx, hy, _⟩ := (Aw.1 hpre.r).2
 have h1 : a.eval x = .int k a0 := Ee (hs.opd hx : DC w G.S (a.eval x) (.val _))
 have h2 : a.eval y = .int k2 b0 := Ee (hs.opd hy : DC w G.S (a.eval y) (.val _))
 refine ⟨.int k (RG a0 b0), w, G, ?_, hs, ?_⟩
 ·simp only [execOp, hop]
  refine Fe fun cs => ?_
  simp only [List.map_toArray, List.map_cons, List.map_nil, builtin, h1, h2]
  rfl
 ·rintro d ⟨⟩
  exact ⟨.val _ rfl, fun b hb => by cases hb⟩
theorem Wv {x y : Operand} {t t2 s : Nat} {k k2 : IntKind} {a0 b0 : Int} (hat : At st.env ops i X.n (.call ⟨.builtin .max, #[x, y], #[t, t2]⟩) s gs)
  (hx : opd st.env x = some (vD (.int k a0))) (hy : opd st.env y = some (vD (.int k2 b0)))
  (next : Bs P X ops dr Q r (i + 1) (CR.upd ⟨gs ++ [(x, vD (.int k a0)), (y, vD (.int k2 b0))], [], some s, some (vD (.int k (Q2 a0 b0))), [], []⟩ st) ((i, ⟨gs ++ [(x, vD (.int k a0)), (y, vD (.int k2 b0))], [], some s, some (vD (.int k (Q2 a0 b0))), [], []⟩) :: log)) : Bs P X ops dr Q (r + 1) i st log := by
 obtain ⟨o, ho, hop, hd, hn, hg, hgp⟩ := hat.out
 refine Bs.step next ⟨Aw.2 ⟨hgp, hx, hy, trivial⟩, trivial, trivial⟩ (LR.value ho hg rfl hd.symm (Du hd hn) ?_)
 intro G st a w hs hpre
 obtain ⟨hx, hy, _⟩ := (Aw.1 hpre.r).2
 have h1 : a.eval x = .int k a0 := Ee (hs.opd hx : DC w G.S (a.eval x) (.val _))
 have h2 : a.eval y = .int k2 b0 := Ee (hs.opd hy : DC w G.S (a.eval y) (.val _))
 refine ⟨.int k (Q2 a0 b0), w, G, ?_, hs, ?_⟩
 ·simp only [execOp, hop]
  refine Fe fun cs => ?_
  simp only [List.map_toArray, List.map_cons, List.map_nil, builtin, h1, h2]
  rfl
 ·rintro d ⟨⟩
  exact ⟨.val _ rfl, fun b hb => by cases hb⟩
theorem PS {x : Operand} {s b k : Nat} (hat : At st.env ops i X.n (.nilCheck x) s gs) (hx : opd st.env x = some (.e (.one (.ptr b k))))
  (next : Bs P X ops dr Q r (i + 1) (CR.upd ⟨gs ++ [(x, .e (.one (.ptr b k)))], [], some s, some (.e (.one (.ptr b k))), [], []⟩ st) ((i, ⟨gs ++ [(x, .e (.one (.ptr b k)))], [], some s, some (.e (.one (.ptr b k))), [], []⟩) :: log)) : Bs P X ops dr Q (r + 1) i st log := by
 obtain ⟨o, ho, hop, hd, hn, hg, hgp⟩ := hat.out
 refine Bs.step next ⟨Aw.2 ⟨hgp, hx, trivial⟩, trivial, trivial⟩ (LR.value ho hg rfl hd.symm (Du hd hn) ?_)
 intro G st a w hs hpre
 obtain ⟨hx, _⟩ := (Aw.1 hpre.r).2
 obtain ⟨β, hβ, hv⟩ : EV P w G (a.eval x) (.ptr b k) := hs.opd hx
 refine ⟨.pointer (some ⟨β, k, none⟩), w, G, ?_, hs, ?_⟩
 ·simp only [execOp, hop, hv]; rfl
 ·rintro d ⟨⟩
  exact ⟨⟨β, hβ, rfl⟩, fun b' hb' => hs.opd_live hx b' hb'⟩
def Nt (P : Program) (t : TypeId) : Bool := match P.underlying t with | some .string => true | _ => false
theorem RZ {x y : Operand} {t s : Nat} {b : ByteArray} {k : IntKind} {n : Int} {c : UInt8} (hat : At st.env ops i X.n (.index t x y) s gs)
  (hx : opd st.env x = some (vD (.string b))) (hy : opd st.env y = some (vD (.int k n))) (ht : Nt P t = true) (h0 : 0 ≤ n) (hc : b[n.toNat]? = some c)
  (next : Bs P X ops dr Q r (i + 1) (CR.upd ⟨gs ++ [(x, vD (.string b)), (y, vD (.int k n))], [], some s, some (vD (.int .u8 (c.toNat : Int))), [], []⟩ st) ((i, ⟨gs ++ [(x, vD (.string b)), (y, vD (.int k n))], [], some s, some (vD (.int .u8 (c.toNat : Int))), [], []⟩) :: log)) : Bs P X ops dr Q (r + 1) i st log := by
 obtain ⟨o, ho, hop, hd, hn, hg, hgp⟩ := hat.out
 refine Bs.step next ⟨Aw.2 ⟨hgp, hx, hy, trivial⟩, trivial, trivial⟩ (LR.value ho hg rfl hd.symm (Du hd hn) ?_)
 intro G st a w hs hpre
 obtain ⟨hx, hy, _⟩ := (Aw.1 hpre.r).2
 have h1 : a.eval x = .string b := Ee (hs.opd hx : DC w G.S (a.eval x) (.val _))
 have h2 : a.eval y = .int k n := Ee (hs.opd hy : DC w G.S (a.eval y) (.val _))
 refine ⟨.int .u8 (c.toNat : Int), w, G, ?_, hs, ?_⟩
 ·simp only [execOp, hop, h1, h2]
  refine Ar (a := .int .u8 (c.toNat : Int)) (w1 := w) ?_ rfl
  unfold Nt at ht
  split at ht
  ·rename_i hu
   unfold Instr.index
   refine Ar (a := (k, n)) (w1 := w) rfl ?_
   refine Ar (AU hu w) ?_
   simp only [h0, if_true, hc]
   rfl
  ·cases ht
 ·rintro d ⟨⟩
  exact ⟨.val _ rfl, fun b hb => by cases hb⟩
def NW (P : Program) (s : TypeId) : Bool := match P.underlying s with | some (.slice e) => (match P.underlying e with | some (.int .u8) => true | _ => false) | _ => false
theorem M4 {w : World} {a : Addr} {len cap : Nat} {xs : List Int} (h : (loadCells a len).run P w = .ok (xs.map fun n => Value.int .u8 n).toArray w) : (Conv.bytesToString (.slice (some a) len cap)).run P w = .ok (.string (HD xs)) w := by
 unfold Conv.bytesToString
 refine Ar h ?_
 have key : ∀ (xs : List Int) (s : ByteArray), (forIn (m := Sem) (xs.map fun n => Value.int .u8 n) s (fun c r => (match c with
   | .int .u8 n => pure (ForInStep.yield (r.push (UInt8.ofNat n.toNat)))
   | _ => do stuck "bytesToString: byte expected" : Sem (ForInStep ByteArray)))).run P w = .ok (xs.foldl (fun s n => s.push (UInt8.ofNat n.toNat)) s) w := by
  intro xs
  induction xs with
  | nil => intro s; rfl
  | cons x xs ih =>
   intro s
   rw [List.map_cons, List.forIn_cons]
   refine Ar (a := ForInStep.yield (s.push (UInt8.ofNat x.toNat))) (w1 := w) rfl ?_
   exact ih _
 have h2 := key xs ByteArray.empty
 rw [← List.forIn_toArray] at h2
 refine Ar (a := HD xs) (w1 := w) ?_ rfl
 exact h2
theorem Sd {x : Operand} {t t2 s : Nat} {d : D} {rb : List (Nat × BE)} {rows : List (List T)} (xs : List Int) (hat : At st.env ops i X.n (.convert t t2 x) s gs)
  (hx : opd st.env x = some d) (hS : ML d rb 1 rows) (hb : GQ st.bx rb) (hr : rows = xs.map fun n => [T.val (.int .u8 n)]) (ht : NW P t = true) (ht2 : Nt P t2 = true)
  (next : Bs P X ops dr Q r (i + 1) (CR.upd ⟨gs ++ [(x, d)], rb, some s, some (vD (.string (HD xs))), [], []⟩ st) ((i, ⟨gs ++ [(x, d)], rb, some s, some (vD (.string (HD xs))), [], []⟩) :: log)) : Bs P X ops dr Q (r + 1) i st log := by
 obtain ⟨o, ho, hop, hd, hn, hg, hgp⟩ := hat.out
 refine Bs.step next ⟨Aw.2 ⟨hgp, hx, trivial⟩, hb, trivial⟩ (LR.value ho hg rfl hd.symm (Du hd hn) ?_)
 intro G st a w hs hpre
 obtain ⟨hx, _⟩ := (Aw.1 hpre.r).2
 have hb := hpre.b
 obtain ⟨p, cap, h1, h2⟩ := hs.srcW hx hS hb
 subst hr
 refine ⟨.string (HD xs), w, G, ?_, hs, ?_⟩
 ·simp only [execOp, hop]
  refine Ar (a := .string (HD xs)) (w1 := w) ?_ rfl
  unfold NW at ht
  split at ht
  ·rename_i e hu
   split at ht
   ·rename_i hu2
    unfold Nt at ht2
    split at ht2
    ·rename_i hu3
     unfold convert
     refine Ar (AU hu w) ?_
     refine Ar (AU hu3 w) ?_
     rw [h1]
     simp only [List.length_map]
     refine Ar (AU hu2 w) ?_
     rcases h2 with h2 | ⟨β, off, arr, el, fz, h3, h4, h5⟩
     ·have hx0 : xs = [] := by simpa using h2
      subst hx0
      cases p with
      | none => rfl
      | some q => exact M4 (xs := []) (by unfold loadCells loadCellsFrom; rfl)
     ·subst h3
      refine M4 ?_
      have hsz : off + xs.length ≤ arr.size := by have := h5.1; simpa using this
      rw [GH h4 hsz]
      congr 1
      apply congrArg List.toArray
      apply List.ext_getElem?
      intro j
      rw [List.getElem?_map, List.getElem?_map]
      by_cases hj : j < xs.length
      ·have hxj : xs[j]? = some xs[j] := by simp [hj]
       rw [List.getElem?_range hj, hxj]
       simp only [Option.map_some, Option.some.injEq]
       have hrow : (xs.map fun n => [T.val (.int .u8 n)])[j]? = some [T.val (.int .u8 xs[j])] := by rw [List.getElem?_map, hxj]; rfl
       have := h5.2.2 j _ 0 _ hrow rfl
       rw [Nat.mul_one, Nat.add_zero] at this
       exact Ee this
      ·rw [List.getElem?_eq_none (by simp; omega), List.getElem?_eq_none (by omega)]; rfl
    ·cases ht2
   ·cases ht
  ·cases ht
 ·rintro d ⟨⟩
  exact ⟨.val _ rfl, fun b hb => by cases hb⟩
end run
section maps
variable {K V : Type}
def Ke [BEq K] (k : K) : List (K × V) → Option V
 | [] => none
 | p :: r => if k == p.1 then some p.2 else Ke k r
def KO [BEq K] (k : K) (v : V) : List (K × V) → List (K × V)
 | [] => [(k, v)]
 | p :: r => if k == p.1 then (k, v) :: r else p :: KO k v r
def H6 (kv : K → Value) (vt : V → T) (m : List (K × V)) : List (Value × T) := m.map fun p => (kv p.1, vt p.2)
end maps
structure Rk {K : Type} [BEq K] (P : Program) (t : TypeId) (kv : K → Value) : Prop where
 ty : ∃ kt el kd, P.underlying t = some (.map kt el) ∧ P.underlying kt = some kd ∧ (∀ a b : K, Instr.sameNow kd (kv a) (kv b) = some (a == b)) ∧ (∀ (e : Bool) (n : Nat) (v : K) (w : World), (Instr.checkKey e (n + 1) kt (kv v)).run P w = .ok () w)
 same : ∀ a b : K, (a == b) = true → Instr.sameBits 10000 (kv b) (kv a) = true
theorem Jb {K V : Type} [BEq K] {kd : TypeDesc} {kv : K → Value} (h : ∀ a b : K, Instr.sameNow kd (kv a) (kv b) = some (a == b)) (k : K) : ∀ (m : List (K × V)) (es : List MapEntry) (i : Nat), es.length = m.length → (∀ (j : Nat) (p : K × V), m[j]? = some p → ∃ e : MapEntry, es[j]? = some e ∧ e.key = kv p.1) →
  (Ke k m = none ∧ Instr.findNow kd (kv k) es i = some none) ∨ ∃ j p e, m[j]? = some p ∧ es[j]? = some e ∧ (k == p.1) = true ∧ Ke k m = some p.2 ∧ Instr.findNow kd (kv k) es i = some (some (i + j, e.val)) ∧ (∀ v, KO k v m = m.set j (k, v))
 | [], [], i, _, _ => .inl ⟨rfl, rfl⟩
 | p :: m, e :: es, i, hl, hp => by
  obtain ⟨e0, h0, h1⟩ := hp 0 p rfl
  simp at h0; subst h0
  have h2 := h k p.1
  by_cases hk : (k == p.1) = true
  ·refine .inr ⟨0, p, e, rfl, rfl, hk, ?_, ?_, fun v => ?_⟩
   ·simp only [Ke, hk, if_true]
   ·simp only [Instr.findNow, h1, h2, hk]; rfl
   ·simp only [KO, hk, if_true]; rfl
  ·have hk' : (k == p.1) = false := by simpa using hk
   rcases Jb h k m es (i + 1) (by simpa using hl) (fun j q hq => hp (j + 1) q (by simpa using hq)) with ⟨g1, g2⟩ | ⟨j, q, e', g1, g2, g3, g4, g5, g6⟩
   ·refine .inl ⟨?_, ?_⟩
    ·simp only [Ke, hk']; exact g1
    ·simp only [Instr.findNow, h1, h2, hk']; exact g2
   ·refine .inr ⟨j + 1, q, e', by simpa using g1, by simpa using g2, g3, ?_, ?_, fun v => ?_⟩
    ·simp only [Ke, hk']; exact g4
    ·simp only [Instr.findNow, h1, h2, hk']; rw [g5]; simp [Nat.add_assoc, Nat.add_comm 1]
    ·simp only [KO, hk']; rw [g6 v]; rfl
theorem KJ {K V : Type} [BEq K] (k : K) (v : V) : ∀ {m : List (K × V)}, Ke k m = none → KO k v m = m ++ [(k, v)]
 | [], _ => rfl
 | p :: m, h => by
  simp only [Ke] at h
  split at h
  ·cases h
  ·rename_i hk
   simp only [KO]; rw [if_neg hk, KJ k v h]; rfl
section run
variable {dr : Bool} {Q : St → Prop} {r i : Nat} {st : St} {log : List (Nat × CR)} {o : Oper} {gs : List (Operand × D)}
theorem QO {t s : Nat} (hat : At st.env ops i X.n (.makeMap t none) s gs) (hnew : st.bx s = none)
  (next : Bs P X ops dr Q r (i + 1) (CR.upd ⟨gs, [], some s, some (.e (.one (.mref s))), [(s, .mp [])], [s]⟩ st) ((i, ⟨gs, [], some s, some (.e (.one (.mref s))), [(s, .mp [])], [s]⟩) :: log)) : Bs P X ops dr Q (r + 1) i st log := by
 obtain ⟨o, ho, hop, hd, hn, hg, hgp⟩ := hat.out
 refine Bs.step next ⟨hgp, trivial, hnew, trivial⟩ (LR.value (rs := []) ho hg (by simp) hd.symm (Du hd hn) ?_)
 intro G st a w hs hpre
 have hnew := hpre.n.1
 have key := hs.newB (.map #[] 0) s (.mp []) undef (hs.nl hn) hnew
  ⟨w.heap.size, #[], 0, by simp [Gh.set], by rw [DS, if_pos rfl], rfl, fun i x h => by simp at h⟩ (fun c hc => by cases hc)
 refine ⟨.map (some w.heap.size), _, _, ?_, key, ?_⟩
 ·simp only [execOp, hop]
  exact Ar (a := .map (some w.heap.size)) (w1 := w.alloc (.map #[] 0)) rfl rfl
 ·rintro d ⟨⟩
  refine ⟨⟨w.heap.size, by simp [Gh.set], rfl⟩, fun b hb => ?_⟩
  simp [D.names, E.names, C.names] at hb
  subst hb; simp [Bx]
theorem Dc.mpAt {G : Gh} {a : Act} {w : World} (hs : Dc P X G st a w) {x : Operand} {b : Nat} {es : List (Value × T)} (hx : Lift.opd st.env x = some (.e (.one (.mref b)))) (hb : st.bx b = some (.mp es)) :
  ∃ β arr clock, a.eval x = .map (some β) ∧ G.loc b = some β ∧ w.heap[β]? = some (.map arr clock) ∧ arr.size = es.length ∧ ∀ (i : Nat) (y : Value × T), es[i]? = some y → ∃ m : MapEntry, arr[i]? = some m ∧ m.key = y.1 ∧ DC w G.S m.val y.2 := by
 obtain ⟨β, hβ, hv⟩ : EV P w G (a.eval x) (.mref b) := hs.opd hx
 obtain ⟨β', arr, clock, h1, h2, h3, h4⟩ := hs.blk b _ hb
 rw [hβ] at h1; cases h1
 exact ⟨β, arr, clock, hv, hβ, h2, h3, h4⟩
theorem Ik {β : Nat} {arr : Array MapEntry} {clock : Nat} {w : World} (h : w.heap[β]? = some (.map arr clock)) : (getObj β).run P w = .ok (.map arr clock) w := by
 simp [getObj, Sem.run, h]
theorem LO {β : Nat} {arr : Array MapEntry} {clock : Nat} {o : Obj} {w : World} (h : w.heap[β]? = some (.map arr clock)) : (setObj β o).run P w = .ok () (FZ w β o) := by
 simp [setObj, Sem.run, h, FZ]
theorem HH {K V : Type} [BEq K] {kt : TypeId} {kd : TypeDesc} {kv : K → Value} {k : K} {es : List MapEntry} {r : Option (Nat × Value)} {w : World} (hu : P.underlying kt = some kd) (h : Instr.findNow kd (kv k) es 0 = some r) : (Instr.findKey kt (kv k) es).run P w = .ok r w := by
 unfold Instr.findKey
 refine Ar (AU hu w) ?_
 rw [h]; rfl
theorem SH {K V : Type} [BEq K] {t s b el : Nat} {x y : Operand} {c : Bool} {z : Value} {kv : K → Value} {vt : V → T} {m : List (K × V)} {k : K} {dv v0 : V} (hat : At st.env ops i X.n (.lookup t x y c) s gs)
  (hx : opd st.env x = some (.e (.one (.mref b)))) (hy : opd st.env y = some (vD (kv k))) (hb : st.bx b = some (.mp (H6 kv vt m))) (hk : Rk P t kv) (hel : (match P.underlying t with | some (.map _ e) => e == el | _ => false) = true) (hz : D8 P el = some z) (hzv : vt dv = .val z) (hz1 : F6 z = true) (hv0 : (Ke k m).getD dv = v0)
  (next : Bs P X ops dr Q r (i + 1) (CR.upd ⟨gs ++ [(x, .e (.one (.mref b))), (y, vD (kv k))], [(b, .mp (H6 kv vt m))], some s, some (if c then .tup [.one (.pure (vt v0)), .one (.pure (.val (.bool (Ke k m).isSome)))] else one (vt v0)), [], []⟩ st) ((i, ⟨gs ++ [(x, .e (.one (.mref b))), (y, vD (kv k))], [(b, .mp (H6 kv vt m))], some s, some (if c then .tup [.one (.pure (vt v0)), .one (.pure (.val (.bool (Ke k m).isSome)))] else one (vt v0)), [], []⟩) :: log)) : Bs P X ops dr Q (r + 1) i st log := by
 obtain ⟨o, ho, hop, hd, hn, hg, hgp⟩ := hat.out
 refine Bs.step next ⟨Aw.2 ⟨hgp, hx, hy, trivial⟩, ⟨hb, trivial⟩, trivial⟩ (LR.value ho hg rfl hd.symm (Du hd hn) ?_)
 intro G st a w hs hpre
 obtain ⟨hx, hy, _⟩ := (Aw.1 hpre.r).2
 have hb := hpre.b.1
 obtain ⟨β, arr, clock, h1, h2, h3, h4, h5⟩ := hs.mpAt hx hb
 have hY : a.eval y = kv k := Ee (hs.opd hy : DC w G.S (a.eval y) (.val _))
 obtain ⟨kt, el', kd, u1, u2, u3, u4⟩ := hk.ty
 rw [u1] at hel
 have hel' : el' = el := by simpa using hel
 subst hel'
 have hes : ∀ (j : Nat) (p : K × V), m[j]? = some p → ∃ e : MapEntry, arr.toList[j]? = some e ∧ e.key = kv p.1 ∧ DC w G.S e.val (vt p.2) := fun j p hp => by
  obtain ⟨e, e1, e2, e3⟩ := h5 j (kv p.1, vt p.2) (by unfold H6; rw [List.getElem?_map, hp]; rfl)
  exact ⟨e, by simpa using e1, e2, e3⟩
 have hfin : ∃ v, (Instr.lookup t (.map (some β)) (kv k) c).run P w = .ok (if c then .tuple #[v, .bool (Ke k m).isSome] else v) w ∧ DC w G.S v (vt v0) := by
  rcases Jb (V := V) u3 k m arr.toList 0 (by simp [h4, H6]) (fun j p hp => by obtain ⟨e, e1, e2, _⟩ := hes j p hp; exact ⟨e, e1, e2⟩) with ⟨g1, g2⟩ | ⟨j, q, e, g1, g2, g3, g4, g5, _⟩
  ·refine ⟨z, ?_, ?_⟩
   ·rw [g1]
    unfold Instr.lookup
    refine Ar (AU u1 w) ?_
    refine Ar (Ik h3) ?_
    refine Ar (a := arr) (w1 := w) rfl ?_
    refine Ar (u4 _ _ _ _) ?_
    refine Ar (HH (V := V) u2 g2) ?_
    refine Ar (EU hz w) ?_
    exact Ar (a := (z, false)) (w1 := w) rfl rfl
   ·rw [← hv0, g1, Option.getD_none, hzv]; exact .val _ hz1
  ·refine ⟨e.val, ?_, ?_⟩
   ·rw [g4]
    unfold Instr.lookup
    refine Ar (AU u1 w) ?_
    refine Ar (Ik h3) ?_
    refine Ar (a := arr) (w1 := w) rfl ?_
    refine Ar (u4 _ _ _ _) ?_
    refine Ar (HH (V := V) u2 g5) ?_
    exact Ar (a := (e.val, true)) (w1 := w) rfl rfl
   ·obtain ⟨e', e1, _, e3⟩ := hes j q g1
    rw [g2] at e1; cases e1
    rw [← hv0, g4]; exact e3
 obtain ⟨v, hv1, hv2⟩ := hfin
 refine ⟨(if c then .tuple #[v, .bool (Ke k m).isSome] else v), w, G, ?_, hs, ?_⟩
 ·simp only [execOp, hop, h1, hY]
  exact Ar hv1 rfl
 ·rintro d hd'
  cases c with
  | false => cases hd'; exact ⟨hv2, fun b hb => by cases hb⟩
  | true =>
   cases hd'
   refine ⟨⟨_, rfl, rfl, fun j x hj => ?_⟩, fun b hb => by simp [D.names, KP, E.names, C.names] at hb⟩
   match j, hj with
   | 0, hj => cases hj; exact hv2
   | 1, hj => cases hj; exact .val _ rfl
theorem Pm {K V : Type} [BEq K] {t b : Nat} {x y u : Operand} {kv : K → Value} {vt : V → T} {m m' : List (K × V)} {k : K} {v : V} {op : Op} (hat : OZ ops i = some op) (hop' : op = .mapUpdate t x y u ∨ op = .insert t x y u)
  (hx : opd st.env x = some (.e (.one (.mref b)))) (hy : opd st.env y = some (vD (kv k))) (hu : opd st.env u = some (one (vt v))) (hb : st.bx b = some (.mp (H6 kv vt m))) (hk : Rk P t kv) (hm : KO k v m = m')
  (next : Bs P X ops dr Q r (i + 1) (CR.upd ⟨[(x, .e (.one (.mref b))), (y, vD (kv k)), (u, one (vt v))], [(b, .mp (H6 kv vt m))], none, none, [(b, .mp (H6 kv vt m'))], []⟩ st) ((i, ⟨[(x, .e (.one (.mref b))), (y, vD (kv k)), (u, one (vt v))], [(b, .mp (H6 kv vt m))], none, none, [(b, .mp (H6 kv vt m'))], []⟩) :: log)) : Bs P X ops dr Q (r + 1) i st log := by
 obtain ⟨o, ho, hop, hd, hgn⟩ := Lv hat
 have hg : RI ops o [] := .none hgn
 refine Bs.step next ⟨⟨hx, hy, hu, trivial⟩, ⟨hb, trivial⟩, trivial⟩ (LR.skip (rs := [(x, .e (.one (.mref b))), (y, vD (kv k)), (u, one (vt v))]) ho hg rfl hd rfl ?_)
 intro G st a w hs hpre
 obtain ⟨hx, hy, hu, _⟩ := hpre.r
 have hb := hpre.b.1
 subst hm
 obtain ⟨β, arr, clock, h1, h2, h3, h4, h5⟩ := hs.mpAt hx hb
 have hY : a.eval y = kv k := Ee (hs.opd hy : DC w G.S (a.eval y) (.val _))
 have hU : DC w G.S (a.eval u) (vt v) := hs.opd hu
 obtain ⟨kt, el', kd, u1, u2, u3, u4⟩ := hk.ty
 have hes : ∀ (j : Nat) (p : K × V), m[j]? = some p → ∃ e : MapEntry, arr.toList[j]? = some e ∧ e.key = kv p.1 ∧ DC w G.S e.val (vt p.2) := fun j p hp => by
  obtain ⟨e, e1, e2, e3⟩ := h5 j (kv p.1, vt p.2) (by unfold H6; rw [List.getElem?_map, hp]; rfl)
  exact ⟨e, by simpa using e1, e2, e3⟩
 have hat := hs.at_ok b _ β hb rfl (.inl h2)
 have hml : arr.size = m.length := by rw [h4]; simp [H6]
 have fin : ∀ arr' clock', arr'.size = (KO k v m).length → (∀ (j : Nat) (p : K × V), (KO k v m)[j]? = some p → ∃ e : MapEntry, arr'[j]? = some e ∧ e.key = kv p.1 ∧ DC w G.S e.val (vt p.2)) →
   Dc P X G ⟨st.env, Bx st.bx [(b, .mp (H6 kv vt (KO k v m)))]⟩ a (FZ w β (.map arr' clock')) := by
  intro arr' clock' k1 k2
  have hS : ∀ γ, G.S γ → (FZ w β (.map arr' clock')).heap[γ]? = w.heap[γ]? := fun γ hγ => by
   rw [D3, if_neg (fun (h : γ = β ∧ β < w.heap.size) => hat.2.2 (h.1 ▸ hγ))]
  refine hs.setB (b := b) (k0 := .mp (H6 kv vt m)) hb rfl rfl (.inl h2) ⟨β, arr', clock', h2, by rw [D3, if_pos ⟨rfl, hat.2.1⟩], by rw [k1]; simp [H6], fun j y hy => ?_⟩ (fun c hc => by cases hc)
  unfold H6 at hy
  rw [List.getElem?_map] at hy
  cases hp : (KO k v m)[j]? with
  | none => rw [hp] at hy; cases hy
  | some p =>
   rw [hp] at hy; cases hy
   obtain ⟨e, e1, e2, e3⟩ := k2 j p hp
   exact ⟨e, e1, e2, e3.mono hS fun _ h => h⟩
 have hrun : ∀ w', (Instr.mapUpdate t (.map (some β)) (kv k) (a.eval u)).run P w = .ok () w' → (execOp a.eval o).run P w = .ok .skip w' := fun w' h => by
  rcases hop' with e | e
  ·simp only [execOp, hop, e, h1, hY]; exact Ar h rfl
  ·simp only [execOp, hop, e, h1, hY]; exact Ar h rfl
 rcases Jb (V := V) u3 k m arr.toList 0 (by simp [hml]) (fun j p hp => by obtain ⟨e, e1, e2, _⟩ := hes j p hp; exact ⟨e, e1, e2⟩) with ⟨g1, g2⟩ | ⟨j, q, e, g1, g2, g3, g4, g5, g6⟩
 ·refine ⟨_, G, hrun _ ?_, fin (arr.push { key := kv k, val := a.eval u, born := clock }) (clock + 1) ?_ ?_⟩
  ·unfold Instr.mapUpdate
   refine Ar (AU u1 w) ?_
   refine Ar (Ik h3) ?_
   refine Ar (u4 _ _ _ _) ?_
   refine Ar (HH (V := V) u2 g2) ?_
   exact LO h3
  ·rw [KJ k v g1]; simp [hml]
  ·intro j p hp
   rw [KJ k v g1] at hp
   by_cases hj : j < m.length
   ·rw [List.getElem?_append_left hj] at hp
    obtain ⟨e, e1, e2, e3⟩ := hes j p hp
    refine ⟨e, ?_, e2, e3⟩
    rw [Array.getElem?_push, if_neg (by omega)]
    simpa using e1
   ·rw [List.getElem?_append_right (by omega)] at hp
    have hj0 : j - m.length = 0 := by have := AS hp; simp at this; omega
    rw [hj0] at hp; cases hp
    exact ⟨{ key := kv k, val := a.eval u, born := clock }, by rw [Array.getElem?_push, if_pos (by omega)], rfl, hU⟩
 ·have hjm := AS g1
  have hje : arr[j]? = some e := by simpa using g2
  have hek : e.key = kv q.1 := by obtain ⟨e', e1, e2, _⟩ := hes j q g1; rw [g2] at e1; cases e1; exact e2
  refine ⟨_, G, hrun _ ?_, fin (arr.modify j fun e => { e with key := kv k, val := a.eval u }) clock ?_ ?_⟩
  ·unfold Instr.mapUpdate
   refine Ar (AU u1 w) ?_
   refine Ar (Ik h3) ?_
   refine Ar (u4 _ _ _ _) ?_
   refine Ar (HH (V := V) u2 g5) ?_
   simp only [Nat.zero_add]
   refine Ar (a := kv k) (w1 := w) ?_ (LO h3)
   rw [hje]
   simp only [Option.map_some, Option.getD_some]
   unfold Instr.keyThatStays
   rw [hek, hk.same k q.1 g3]; rfl
  ·rw [g6 v]; simp [hml]
  ·intro j' p hp
   rw [g6 v] at hp
   rw [Array.getElem?_modify]
   rcases Lu hp with ⟨rfl, rfl⟩ | ⟨hne, hp⟩
   ·rw [if_pos rfl, hje]
    exact ⟨_, rfl, rfl, hU⟩
   ·rw [if_neg (fun h => hne h.symm)]
    obtain ⟨e', e1, e2, e3⟩ := hes j' p hp
    exact ⟨e', by simpa using e1, e2, e3⟩
end run
end Go.Lift
namespace Go.Lift
open Go.RowKit
variable {P : Program} {X : Ic} {ops : Array Oper}
section run
variable {dr : Bool} {Q : St → Prop} {r i : Nat} {st : St} {log : List (Nat × CR)} {o : Oper} {gs : List (Operand × D)}
def XE : Ow → Bool
 | .s => true
 | _ => false
end run
def R0 (e : Nat) (cols : List Ow) (rows : List (List T)) : BE := if cols.all XE then .vec e rows else .dvec e cols rows
section run
variable {dr : Bool} {Q : St → Prop} {r i : Nat} {st : St} {log : List (Nat × CR)} {o : Oper} {gs : List (Operand × D)}
end run
end Go.Lift
namespace Go.Lift
open Go.RowKit
variable {P : Program} {X : Ic} {ops : Array Oper}
section run
variable {dr : Bool} {Q : St → Prop} {r i : Nat} {st : St} {log : List (Nat × CR)} {o : Oper} {gs : List (Operand × D)}
structure Ny (w : World) (S : Nat → Prop) (e : Nat) (cols : List Ow) (rows : List (List T)) (Rf : Nat → Nat → Nat → Prop) (f : Nat → Value) : Prop where
 len : ∀ (i : Nat) (row : List T), rows[i]? = some row → row.length = e
 cell : ∀ (i : Nat) (row : List T) (j : Nat) (t : T), rows[i]? = some row → row[j]? = some t → Rb w S (cols.getD j .s) (Rf i j) (f (i * e + j)) t
 dis : ∀ i j i' j' γ, Rf i j γ → Rf i' j' γ → i = i' ∧ j = j'
theorem Ny.ones {w : World} {S : Nat → Prop} {e : Nat} {cols : List Ow} {rows : List (List T)} {Rf : Nat → Nat → Nat → Prop} {arr : Array Value} (h : Ny w S e cols rows Rf (AE arr)) (hs : arr.size = rows.length * e) : ∀ u, u ∈ arr.toList → F6 u = true := by
 intro u hu
 obtain ⟨k, hk⟩ := List.mem_iff_getElem?.1 hu
 have hk' : arr[k]? = some u := by simpa using hk
 have hlt : k < arr.size := by
  rcases Nat.lt_or_ge k arr.size with h' | h'
  ·exact h'
  ·rw [Array.getElem?_eq_none h'] at hk'; cases hk'
 rcases Nat.eq_zero_or_pos e with e0 | e0
 ·rw [e0, Nat.mul_zero] at hs; omega
 have h1 : k / e < rows.length := (Nat.div_lt_iff_lt_mul e0).2 (by omega)
 have h2 : k % e < e := Nat.mod_lt _ e0
 have hrow : rows[k / e]? = some rows[k / e] := by simp [h1]
 have hlen := h.len _ _ hrow
 have hcell : (rows[k / e])[k % e]? = some ((rows[k / e])[k % e]'(by omega)) := by simp [show k % e < rows[k / e].length from by omega]
 have := (h.cell _ _ _ _ hrow hcell).one
 rw [show k / e * e + k % e = k from by rw [Nat.mul_comm]; exact Nat.div_add_mod k e] at this
 simpa [AE, hk'] using this
theorem Ny.app {w w' : World} {S : Nat → Prop} {e : Nat} {cols : List Ow} {rows rows2 : List (List T)} {Rf Rf2 : Nat → Nat → Nat → Prop} {f f2 g : Nat → Value} (h1 : Ny w S e cols rows Rf f) (h2 : Ny w S e cols rows2 Rf2 f2)
  (hx : ∀ i j i' j' γ, Rf i j γ → Rf2 i' j' γ → False) (hg1 : ∀ j, j < rows.length * e → g j = f j) (hg2 : ∀ j, j < rows2.length * e → g (rows.length * e + j) = f2 j)
  (hw : ∀ γ, S γ ∨ (∃ i j, Rf i j γ ∨ Rf2 i j γ) → w'.heap[γ]? = w.heap[γ]?) : Ny w' S e cols (rows ++ rows2) (fun i j γ => if i < rows.length then Rf i j γ else Rf2 (i - rows.length) j γ) g := by
 have hlen : ∀ (i : Nat) (row : List T), (rows ++ rows2)[i]? = some row → row.length = e := fun i row hi => by
  rcases Nat.lt_or_ge i rows.length with h | h
  ·rw [List.getElem?_append_left h] at hi; exact h1.len i row hi
  ·rw [List.getElem?_append_right h] at hi; exact h2.len _ row hi
 refine ⟨hlen, fun i row j t hi hj => ?_, fun i j i' j' γ hγ hγ' => ?_⟩
 ·have hj' := AS hj
  have he := hlen i row hi
  rcases Nat.lt_or_ge i rows.length with h | h
  ·rw [List.getElem?_append_left h] at hi
   have hle : i * e + e ≤ rows.length * e := by rw [← Nat.succ_mul]; exact Nat.mul_le_mul_right e h
   rw [hg1 _ (by omega)]
   exact (h1.cell i row j t hi hj).mono (fun γ hγ => hw γ (hγ.imp id fun hr => ⟨i, j, .inl hr⟩)) (fun _ h => h) (fun γ hγ => by rw [if_pos h]; exact hγ)
  ·rw [List.getElem?_append_right h] at hi
   have hi2 := AS hi
   have hle : (i - rows.length) * e + e ≤ rows2.length * e := by rw [← Nat.succ_mul]; exact Nat.mul_le_mul_right e hi2
   have hsplit : i * e + j = rows.length * e + ((i - rows.length) * e + j) := by
    rw [← Nat.add_assoc, ← Nat.add_mul, show rows.length + (i - rows.length) = i from by omega]
   rw [hsplit, hg2 _ (by omega)]
   exact (h2.cell _ row j t hi hj).mono (fun γ hγ => hw γ (hγ.imp id fun hr => ⟨_, j, .inr hr⟩)) (fun _ h => h) (fun γ hγ => by rw [if_neg (by omega)]; exact hγ)
 ·split at hγ <;> split at hγ'
  ·exact h1.dis i j i' j' γ hγ hγ'
  ·exact (hx _ _ _ _ γ hγ hγ').elim
  ·exact (hx _ _ _ _ γ hγ' hγ).elim
  ·have := h2.dis _ j _ j' γ hγ hγ'
   exact ⟨by omega, this.2⟩
end run
end Go.Lift
namespace Go.Lift
open Go.RowKit
variable {P : Program} {X : Ic} {ops : Array Oper}
theorem GM {α : Type} (f : α → List T) (b e : Nat) (xs : List α) : Ln (.e (.one (.own b))) b e (xs.map f) 0 xs.length := by
 have := Ln.own b e (xs.map f)
 rwa [List.length_map] at this
theorem KS {α : Type} (f : α → List T) (b e lo len : Nat) (xs : List α) (h : lo + len ≤ xs.length) : Ln (.e (.one (.view b e lo len))) b e (xs.map f) lo len := .view b e _ lo len (by simpa using h)
theorem Q0 {α : Type} (f : α → List T) (b e lo len : Nat) (xs : List α) (h : lo + len ≤ xs.length) : ML (.e (.one (.view b e lo len))) [(b, .vec e (xs.map f))] e (((xs.drop lo).take len).map f) := by
 have := ML.view b e (xs.map f) lo len (by simpa using h)
 rwa [← List.map_drop, ← List.map_take] at this
theorem Ro {α : Type} (f : α → List T) (b e : Nat) (xs : List α) : ML (.e (.one (.own b))) [(b, .vec e (xs.map f))] e (xs.map f) := .of (.own _ _ _)
theorem Tx {α : Type} (f : α → List T) (e : Nat) (xs : List α) (h : ∀ x, (f x).length = e) : ML (one (.sl (xs.map f))) [] e (xs.map f) := .of (.sl _ _ (My h xs))
section run
variable {dr : Bool} {Q : St → Prop} {r i : Nat} {st : St} {log : List (Nat × CR)} {o : Oper} {gs : List (Operand × D)}
theorem Hv {α : Type} (f : α → List T) (xs : List α) {x : Operand} {t el s e l h b lo0 len lo1 len1 : Nat} {lo hi : Option Operand} {rl rh : List (Operand × D)} {d : D} (hat : At st.env ops i X.n (.slice t x lo hi none) s gs)
  (hx : opd st.env x = some d) (hD : Ln d b e (xs.map f) lo0 len) (hb : st.bx b = some (.vec e (xs.map f))) (ht : sliceB P t el = true) (he : GD P el e = true) (hlo : Ra lo 0 l rl) (hhi : Ra hi len h rh) (h1 : E4 st.env rl) (h2 : E4 st.env rh) (hlh : l ≤ h) (hhl : lo0 + h ≤ xs.length) (e1 : lo0 + l = lo1) (e2 : h - l = len1)
  (next : Bs P X ops dr Q r (i + 1) (CR.upd ⟨gs ++ ((x, d) :: (rl ++ rh)), [(b, .vec e (xs.map f))], some s, some (.e (.one (.view b e lo1 len1))), [], []⟩ st) ((i, ⟨gs ++ ((x, d) :: (rl ++ rh)), [(b, .vec e (xs.map f))], some s, some (.e (.one (.view b e lo1 len1))), [], []⟩) :: log)) : Bs P X ops dr Q (r + 1) i st log := by
 subst e1; subst e2
 exact Rd hat hx hD hb ht he hlo hhi h1 h2 hlh (by simpa using hhl) next
theorem P9 {α : Type} (f : α → List T) (xs ys : List α) {x y : Operand} {t t2 el s e b lo len : Nat} {d d2 : D} {rb2 : List (Nat × BE)} (hat : At st.env ops i X.n (.call ⟨.builtin .copy, #[x, y], #[t, t2]⟩) s gs)
  (hx : opd st.env x = some d) (hD : Ln d b e (xs.map f) lo len) (hb : st.bx b = some (.vec e (xs.map f))) (hy : opd st.env y = some d2) (hS : ML d2 rb2 e (ys.map f)) (hb2 : GQ st.bx rb2) (ht : sliceB P t el = true) (he : GD P el e = true)
  (next : Bs P X ops dr Q r (i + 1) (CR.upd ⟨gs ++ [(x, d), (y, d2)], (b, .vec e (xs.map f)) :: rb2, some s, some (vD (.int .i64 ((Nat.min ys.length len : Nat) : Int))), [(b, .vec e ((Hb xs lo (ys.take (Nat.min ys.length len))).map f))], []⟩ st) ((i, ⟨gs ++ [(x, d), (y, d2)], (b, .vec e (xs.map f)) :: rb2, some s, some (vD (.int .i64 ((Nat.min ys.length len : Nat) : Int))), [(b, .vec e ((Hb xs lo (ys.take (Nat.min ys.length len))).map f))], []⟩) :: log)) : Bs P X ops dr Q (r + 1) i st log := by
 have hl : (ys.map f).length = ys.length := List.length_map _
 refine Uw hat hx hD hb hy hS hb2 ht he (rows' := (Hb xs lo (ys.take (Nat.min ys.length len))).map f) ?_ ?_
 ·rw [hl, ← List.map_take, Qq]
 ·rw [hl]; exact next
theorem O4 {α : Type} (f : α → List T) (xs : List α) (z0 : α) {x : Operand} {t el b e lo len : Nat} {z : Value} {zs : List Value} {d : D} (hop0 : OZ ops i = some (.call ⟨.builtin .clear, #[x], #[t]⟩))
  (hx : opd st.env x = some d) (hD : Ln d b e (xs.map f) lo len) (hb : st.bx b = some (.vec e (xs.map f))) (ht : sliceB P t el = true) (hz : D8 P el = some z) (hzs : z.cells.toList = zs) (hz1 : zs.all F6 = true) (hze : zs.length = e) (hf : (zs.map fun v => (T.of v).nrm) = f z0)
  (next : Bs P X ops dr Q r (i + 1) (CR.upd ⟨[(x, d)], [(b, .vec e (xs.map f))], none, none, [(b, .vec e ((Hb xs lo (List.replicate len z0)).map f))], []⟩ st) ((i, ⟨[(x, d)], [(b, .vec e (xs.map f))], none, none, [(b, .vec e ((Hb xs lo (List.replicate len z0)).map f))], []⟩) :: log)) : Bs P X ops dr Q (r + 1) i st log := by
 refine Rq hop0 hx hD hb ht hz hzs hz1 hze (rows' := (Hb xs lo (List.replicate len z0)).map f) ?_ next
 rw [hf, ← Qq]; simp
theorem TD {x : Operand} {s t el b e lo len : Nat} (hat : At st.env ops i X.n (.call ⟨.builtin .len, #[x], #[t]⟩) s gs)
  (hx : opd st.env x = some (.e (.one (.view b e lo len)))) (ht : sliceB P t el = true)
  (next : Bs P X ops dr Q r (i + 1) (CR.upd ⟨gs ++ [(x, .e (.one (.view b e lo len)))], [], some s, some (vD (.int .i64 (len : Int))), [], []⟩ st) ((i, ⟨gs ++ [(x, .e (.one (.view b e lo len)))], [], some s, some (vD (.int .i64 (len : Int))), [], []⟩) :: log)) : Bs P X ops dr Q (r + 1) i st log := U3 hat hx ht next
end run
theorem NZ {α : Type} {st : St} (f : α → List T) (xs : List α) (s b e : Nat) (hs0 : st.env s = some (.e (.one (.own b)))) (hb : st.bx b = some (.vec e (xs.map f))) : FR P X st (St.put st (some s) (some (.e (.one (.view b e 0 xs.length))))) := by
 have := Q4 (P := P) (X := X) s b e (xs.map f) hs0 hb
 rwa [List.length_map] at this
theorem So {α : Type} {st : St} (f : α → List T) (xs : List α) (s b n e len : Nat) (hs0 : st.env s = some (.e (.one (.view b e 0 len)))) (hb : st.bx b = some (.vec e (xs.map f))) (hn : st.bx n = none) (hlb : BY b = false) (hln : BY n = false) (hle : len ≤ xs.length) :
  FR P X st (St.put ⟨st.env, Bx st.bx [(n, .vec e ((xs.take len).map f)), (b, .gone)]⟩ (some s) (some (.e (.one (.own n))))) := by
 have := Sm (P := P) (X := X) s b n e len (xs.map f) hs0 hb hn hlb hln (by simpa using hle)
 rwa [← List.map_take] at this
theorem MP (a b : ByteArray) : (a == b) = (a.data == b.data) := by
 cases a; cases b; rfl
theorem JO (a b : ByteArray) (h : (a == b) = true) : (b == a) = true := by
 rw [MP] at h ⊢
 rw [beq_iff_eq] at h ⊢; exact h.symm
theorem ME {c : Code} {Q : Exit → St → Prop} {st : St} (h : W P X c (fun e st => ∃ st', FR P X st st' ∧ Q e st') st) : W P X c Q st := by
 intro a w hs
 refine wp_mono (h a w hs) ?_
 rintro e a' w' ⟨st', ⟨st2, h1, h2⟩, h3⟩
 exact ⟨st2, h2, h1 a' w' h3⟩
def Qr (f : Nat → Nat) (env : Nat → Option D) : List (Nat × D) → Prop
 | [] => True
 | (s, d) :: ps => env s = some (d.ren f) ∧ Qr f env ps
def P5 (f : Nat → Nat) (bx : Nat → Option BE) : List (Nat × BE) → Prop
 | [] => True
 | (b, k) :: ps => bx (f b) = some (k.ren f) ∧ P5 f bx ps
def E5 : List (Nat × BE) → List Nat
 | [] => []
 | (b, _) :: ps => b :: E5 ps
def Mv (f : Nat → Nat) : List Nat → Bool
 | [] => true
 | b :: bs => (if BY b then f b == b else !BY (f b)) && Mv f bs
def V8 (b : Nat) : List Nat → Bool
 | [] => false
 | c :: cs => c == b || V8 b cs
def OY (ns : List Nat) : List (Nat × D) → Bool
 | [] => true
 | (_, d) :: ps => (d.names.all fun b => V8 b ns) && OY ns ps
def O7 (ns : List Nat) : List (Nat × BE) → Bool
 | [] => true
 | (_, d) :: ps => (d.names.all fun b => V8 b ns) && O7 ns ps
theorem OV {f : Nat → Nat} {env : Nat → Option D} : ∀ {el : List (Nat × D)}, Qr f env el → TQ f env el
 | [], _ => trivial
 | (_, _) :: _, h => ⟨h.1, OV h.2⟩
theorem Oy {f : Nat → Nat} {bx : Nat → Option BE} : ∀ {bl : List (Nat × BE)}, P5 f bx bl → S9 f bx bl
 | [], _ => trivial
 | (_, _) :: _, h => ⟨h.1, Oy h.2⟩
theorem Nw : ∀ bl : List (Nat × BE), E5 bl = bl.map (·.1)
 | [] => rfl
 | (b, k) :: ps => by simp [E5, Nw ps]
theorem MV {f : Nat → Nat} : ∀ bl : List (Nat × BE), Mv f (E5 bl) = bl.all fun p => if BY p.1 then f p.1 == p.1 else !BY (f p.1)
 | [] => rfl
 | (b, k) :: ps => by simp only [E5, Mv, List.all_cons, MV ps]
theorem PO {b : Nat} : ∀ bl : List (Nat × BE), V8 b (E5 bl) = bl.any fun q => q.1 == b
 | [] => rfl
 | (c, k) :: ps => by simp only [E5, V8, List.any_cons, PO ps]
theorem OI (bl : List (Nat × BE)) : ∀ el : List (Nat × D), OY (E5 bl) el = el.all fun p => p.2.names.all fun b => bl.any fun q => q.1 == b
 | [] => rfl
 | (s, d) :: ps => by simp only [OY, List.all_cons, OI bl ps, PO]
theorem OX (bl : List (Nat × BE)) : ∀ el : List (Nat × BE), O7 (E5 bl) el = el.all fun p => p.2.names.all fun b => bl.any fun q => q.1 == b
 | [] => rfl
 | (s, d) :: ps => by simp only [O7, List.all_cons, OX bl ps, PO]
theorem SI {st : St} (f : Nat → Nat) (el : List (Nat × D)) (bl : List (Nat × BE)) (he : Qr f st.env el) (hb : P5 f st.bx bl) (hi : (HP ((E5 bl).map f) && Mv f (E5 bl)) = true) (hs : (OY (E5 bl) el && O7 (E5 bl) bl) = true) : FR P X st (mk el bl) := by
 refine TI f el bl (OV he) (Oy hb) ?_ ?_
 ·rw [MV, Nw] at hi; exact hi
 ·rw [OI, OX] at hs; exact hs
theorem KI {dr : Bool} {Q : St → Prop} {r i : Nat} {st : St} {log : List (Nat × CR)} {gs : List (Operand × D)} {x y : Operand} {t s : Nat} {b : ByteArray} {k : IntKind} {n v : Int} (hat : At st.env ops i X.n (.index t x y) s gs)
  (hx : opd st.env x = some (vD (.string b))) (hy : opd st.env y = some (vD (.int k n))) (ht : Nt P t = true) (hv : QP b n = some v)
  (next : Bs P X ops dr Q r (i + 1) (CR.upd ⟨gs ++ [(x, vD (.string b)), (y, vD (.int k n))], [], some s, some (vD (.int .u8 v)), [], []⟩ st) ((i, ⟨gs ++ [(x, vD (.string b)), (y, vD (.int k n))], [], some s, some (vD (.int .u8 v)), [], []⟩) :: log)) : Bs P X ops dr Q (r + 1) i st log := by
 obtain ⟨c, h0, hc, e⟩ := QN (f := some) (r := v) (by rw [hv]; rfl)
 cases e
 exact RZ hat hx hy ht h0 hc next
theorem KK {t kt el : TypeId} (h1 : P.underlying t = some (.map kt el)) (h2 : P.underlying kt = some .string) : Rk P t Value.string where
 ty := ⟨kt, el, .string, h1, h2, fun _ _ => rfl, fun e n v w => by
  unfold Instr.checkKey
  refine Ar (AU h2 w) ?_
  rfl⟩
 same := fun a b h => by
  show (b == a) = true
  exact JO a b h
end Go.Lift
namespace Go.Lift
open Go.RowKit
variable {P : Program} {X : Ic} {ops : Array Oper}
def hd (env : Nat → Option D) (ops : Array Oper) (i n : Nat) : Option (Op × Nat × List (Operand × D)) := match Xt ops i n with
 | some (op, s) => some (op, s, [])
 | none => match W9 ops i n with
  | some (op, s, t, want) => (match env t, want with
   | some (.e (.one (.pure (.val (.bool true))))), true => some (op, s, [(.tmp t, bD true)])
   | some (.e (.one (.pure (.val (.bool false))))), false => some (op, s, [(.tmp t, bD false)])
   | _, _ => none)
  | none => none
theorem CV {env : Nat → Option D} {n i s : Nat} {op : Op} {gs : List (Operand × D)} (h : hd env ops i n = some (op, s, gs)) : At env ops i n op s gs := by
 unfold hd at h
 split at h
 ·rename_i e; cases h; exact .p e
 ·split at h
  ·rename_i e
   split at h
   ·rename_i e2; cases h; exact .g e e2
   ·rename_i e2; cases h; exact .g e e2
   ·cases h
  ·cases h
theorem t2 {α β : Type} {a c : α} {b d : β} (h : (a, b) = (c, d)) : a = c ∧ b = d := Prod.mk.inj h
abbrev Nx (P : Program) (X : Ic) (ops : Array Oper) (dr : Bool) (Q : St → Prop) (r i : Nat) (st : St) (log : List (Nat × CR)) (l : CR) : Prop := Bs P X ops dr Q r (i + 1) (CR.upd l st) ((i, l) :: log)
theorem sj {α : Type} {a b : α} (h : some a = some b) : a = b := Option.some.inj h
def RW (env : Nat → Option D) : List Operand → Option (List D)
 | [] => some []
 | x :: xs => match opd env x, RW env xs with
  | some d, some ds => some (d :: ds)
  | _, _ => none
theorem NS {env : Nat → Option D} : ∀ {xs : List Operand} {ds : List D}, RW env xs = some ds → xs.length = ds.length ∧ E4 env (HX xs ds)
 | [], ds, h => by cases h; exact ⟨rfl, trivial⟩
 | x :: xs, ds, h => by
  simp only [RW] at h
  split at h
  ·rename_i e1 e2
   cases h
   have := NS e2
   exact ⟨by simp [this.1], e1, this.2⟩
  ·cases h
def WE (bx : Nat → Option BE) : List Nat → Option (List (Nat × BE))
 | [] => some []
 | b :: bs => match bx b, WE bx bs with
  | some k, some ks => some ((b, k) :: ks)
  | _, _ => none
theorem R3 {bx : Nat → Option BE} : ∀ {l : List Nat} {bs : List (Nat × BE)}, WE bx l = some bs → GQ bx bs
 | [], bs, h => by cases h; trivial
 | b :: l, bs, h => by
  simp only [WE] at h
  split at h
  ·rename_i e1 e2
   cases h
   exact ⟨e1, R3 e2⟩
  ·cases h
def Vd (env : Nat → Option D) : List (Nat × Operand) → Option (List (Nat × Operand × E))
 | [] => some []
 | p :: ps => match opd env p.2, Vd env ps with
  | some (.e y), some qs => some ((p.1, p.2, y) :: qs)
  | _, _ => none
theorem QK {env : Nat → Option D} : ∀ {l : List (Nat × Operand)} {ps : List (Nat × Operand × E)}, Vd env l = some ps → l = (ps.map fun p => (p.1, p.2.1)) ∧ E4 env (Hg ps)
 | [], ps, h => by cases h; exact ⟨rfl, trivial⟩
 | p :: l, ps, h => by
  simp only [Vd] at h
  split at h
  ·rename_i e1 e2
   cases h
   have := QK e2
   exact ⟨by rw [List.map_cons, ← this.1], e1, this.2⟩
  ·cases h
theorem Sv {env : Nat → Option D} {parts : Array (Nat × Operand)} {ps : List (Nat × Operand × E)} (h : Vd env parts.toList = some ps) : parts = (ps.map fun p => (p.1, p.2.1)).toArray ∧ E4 env (Hg ps) := by
 have := QK h
 exact ⟨by rw [← this.1], this.2⟩
def S8 (k : Nat) : List (Nat × Operand × E) → Bool
 | [] => true
 | p :: ps => Nat.beq p.1 k && S8 (k + 1) ps
theorem Qw : ∀ {k : Nat} {ps : List (Nat × Operand × E)}, S8 k ps = true → ps.map (·.1) = List.range' k ps.length
 | _, [], _ => rfl
 | k, p :: ps, h => by
  simp only [S8, Bool.and_eq_true] at h
  rw [List.map_cons, List.length_cons, List.range'_succ, Qw h.2, Nat.eq_of_beq_eq_true h.1]
def WN : Option BE → Bool
 | none => true
 | some _ => false
theorem Oj {bx : Nat → Option BE} : ∀ {ns : List Nat}, (ns.all fun n => WN (bx n)) = true → Md bx ns
 | [], _ => trivial
 | n :: ns, h => by
  simp only [List.all_cons, Bool.and_eq_true] at h
  refine ⟨?_, Oj h.2⟩
  have := h.1
  cases hb : bx n with
  | none => rfl
  | some k => rw [hb] at this; cases this
theorem MZ {ns : List Nat} (h : (HP ns && (ns.all fun n => !BY n)) = true) : L4 ns := by
 rw [Bool.and_eq_true] at h
 exact ⟨HJ h.1, fun c hc => by simpa using List.all_eq_true.1 h.2 c hc⟩
def WD (env : Nat → Option D) : List (Nat × D) → List (Option D)
 | [] => []
 | (s, _) :: ps => env s :: WD env ps
def WI (f : Nat → Nat) : List (Nat × D) → List (Option D)
 | [] => []
 | (_, d) :: ps => some (d.ren f) :: WI f ps
def WC (f : Nat → Nat) (bx : Nat → Option BE) : List (Nat × BE) → List (Option BE)
 | [] => []
 | (b, _) :: ps => bx (f b) :: WC f bx ps
def WG (f : Nat → Nat) : List (Nat × BE) → List (Option BE)
 | [] => []
 | (_, k) :: ps => some (k.ren f) :: WG f ps
theorem RA {f : Nat → Nat} {env : Nat → Option D} : ∀ {el : List (Nat × D)}, WD env el = WI f el → Qr f env el
 | [], _ => trivial
 | (s, d) :: el, h => by
  simp only [WD, WI] at h
  obtain ⟨h1, h2⟩ := List.cons.inj h
  exact ⟨h1, RA h2⟩
theorem Sb {f : Nat → Nat} {bx : Nat → Option BE} : ∀ {el : List (Nat × BE)}, WC f bx el = WG f el → P5 f bx el
 | [], _ => trivial
 | (s, d) :: el, h => by
  simp only [WC, WG] at h
  obtain ⟨h1, h2⟩ := List.cons.inj h
  exact ⟨h1, Sb h2⟩
theorem sm {st : St} (l : List (Nat × Nat)) (el : List (Nat × D)) (bl : List (Nat × BE)) (h : (WD st.env el, WC (rn l) st.bx bl) = (WI (rn l) el, WG (rn l) bl)) (hi : ((HP ((E5 bl).map (rn l)) && Mv (rn l) (E5 bl)) && (OY (E5 bl) el && O7 (E5 bl) bl)) = true) : FR P X st (mk el bl) :=
 SI (rn l) el bl (RA (t2 h).1) (Sb (t2 h).2) (Bool.and_eq_true_iff.1 hi).1 (Bool.and_eq_true_iff.1 hi).2
section run
variable {dr : Bool} {Q : St → Prop} {r i : Nat} {st : St} {log : List (Nat × CR)} {gs : List (Operand × D)}
theorem qm {x : Operand} {d : D} {s : Nat} (h : (hd st.env ops i X.n, opd st.env x) = (some (.move x, s, gs), some d)) (next : Nx P X ops dr Q r i st log ⟨gs ++ [(x, d)], [], some s, some d, [], []⟩) : Bs P X ops dr Q (r + 1) i st log :=
 UK (CV (t2 h).1) (t2 h).2 next
theorem qa {x : Operand} {d : D} {s : Nat} (h : (hd st.env ops i X.n, opd st.env x) = (some (.assign x, s, gs), some d)) (next : Nx P X ops dr Q r i st log ⟨gs ++ [(x, d)], [], some s, some d, [], []⟩) : Bs P X ops dr Q (r + 1) i st log :=
 Rp (CV (t2 h).1) (t2 h).2 next
theorem qn {j t s : Nat} {want : Bool} (h : (Vh ops i X.n, st.env t) = (some (j, s, t, want), some (bD (!want)))) (next : Nx P X ops dr Q r i st log ⟨[(.tmp t, bD (!want))], [], some s, some uD, [], []⟩) : Bs P X ops dr Q (r + 1) i st log :=
 UN (t2 h).1 (t2 h).2 next
theorem qu {j t s : Nat} {want : Bool} (h : (Vh ops i X.n, st.env t) = (some (j, s, t, want), some uD)) (next : Nx P X ops dr Q r i st log ⟨[(.tmp t, uD)], [], some s, some uD, [], []⟩) : Bs P X ops dr Q (r + 1) i st log :=
 UV (t2 h).1 (t2 h).2 next
theorem qp {c x y : Operand} {b : Bool} {d : D} {z : Operand} {s : Nat} (h : (hd st.env ops i X.n, opd st.env c, (if b then x else y), opd st.env z) = (some (.pick c x y, s, gs), some (bD b), z, some d)) (next : Nx P X ops dr Q r i st log ⟨gs ++ [(c, bD b), (z, d)], [], some s, some d, [], []⟩) : Bs P X ops dr Q (r + 1) i st log :=
 UA (CV (t2 h).1) (t2 (t2 h).2).1 (t2 (t2 (t2 h).2).2).1 (t2 (t2 (t2 h).2).2).2 next
theorem qf {x : Operand} {b k f off s : Nat} {t : TypeId} (hf : C0 P t f off = true) (h : (hd st.env ops i X.n, opd st.env x) = (some (.fieldAddr t x f, s, gs), some (.e (.one (.ptr b k))))) (next : Nx P X ops dr Q r i st log ⟨gs ++ [(x, .e (.one (.ptr b k)))], [], some s, some (.e (.one (.ptr b (k + off)))), [], []⟩) : Bs P X ops dr Q (r + 1) i st log :=
 Ov (CV (t2 h).1) (t2 h).2 hf next
theorem qg {x : Operand} {ts us : List T} {f off s : Nat} {t : TypeId} (hf : C0 P t f off = true) (h : (hd st.env ops i X.n, opd st.env x, Nat.ble (off) (ts.length), ts.drop off) = (some (.fieldAddr t x f, s, gs), some (.e (.one (.rop ts))), true, us)) (next : Nx P X ops dr Q r i st log ⟨gs ++ [(x, .e (.one (.rop ts)))], [], some s, some (.e (.one (.rop us))), [], []⟩) : Bs P X ops dr Q (r + 1) i st log :=
 NJ (CV (t2 h).1) (t2 (t2 h).2).1 hf (Nat.le_of_ble_eq_true (t2 (t2 (t2 h).2).2).1) (t2 (t2 (t2 h).2).2).2 next
theorem ql {x : Operand} {b k s : Nat} {cells : List C} {c : C} {t : TypeId} (ht : EN P t false = true) (h : (hd st.env ops i X.n, opd st.env x, st.bx b, cells[k]?) = (some (.load t x, s, gs), some (.e (.one (.ptr b k))), some (.box cells), some c)) (next : Nx P X ops dr Q r i st log ⟨gs ++ [(x, .e (.one (.ptr b k)))], [(b, .box cells)], some s, some (.e (.one c)), [], []⟩) : Bs P X ops dr Q (r + 1) i st log :=
 Ta (CV (t2 h).1) (t2 (t2 h).2).1 ht (t2 (t2 (t2 h).2).2).1 (t2 (t2 (t2 h).2).2).2 next
theorem qL {x : Operand} {b k n s : Nat} {cells cs : List C} {t : TypeId} (ht : EN P t true = true) (hz : GD P t n = true) (h : (hd st.env ops i X.n, opd st.env x, st.bx b, (cells.drop k).take n, cs.length) = (some (.load t x, s, gs), some (.e (.one (.ptr b k))), some (.box cells), cs, n)) (next : Nx P X ops dr Q r i st log ⟨gs ++ [(x, .e (.one (.ptr b k)))], [(b, .box cells)], some s, some (.e (.agg cs)), [], []⟩) : Bs P X ops dr Q (r + 1) i st log :=
 Tb (CV (t2 h).1) (t2 (t2 h).2).1 ht hz (t2 (t2 (t2 h).2).2).1 (t2 (t2 (t2 (t2 h).2).2).2).1 (t2 (t2 (t2 (t2 h).2).2).2).2 next
theorem qk {x : Operand} {s : Nat} {ts : List T} {u : T} {t : TypeId} (ht : EN P t false = true) (h : (hd st.env ops i X.n, opd st.env x, ts[0]?) = (some (.load t x, s, gs), some (.e (.one (.rop ts))), some u)) (next : Nx P X ops dr Q r i st log ⟨gs ++ [(x, .e (.one (.rop ts)))], [], some s, some (one u), [], []⟩) : Bs P X ops dr Q (r + 1) i st log :=
 Rm (CV (t2 h).1) (t2 (t2 h).2).1 ht (t2 (t2 h).2).2 next
theorem qK {x : Operand} {s n : Nat} {ts us : List T} {t : TypeId} (ht : EN P t true = true) (hz : GD P t n = true) (h : (hd st.env ops i X.n, opd st.env x, ts.take n, us.length) = (some (.load t x, s, gs), some (.e (.one (.rop ts))), us, n)) (next : Nx P X ops dr Q r i st log ⟨gs ++ [(x, .e (.one (.rop ts)))], [], some s, some (.e (.agg (us.map C.pure))), [], []⟩) : Bs P X ops dr Q (r + 1) i st log :=
 R8 (CV (t2 h).1) (t2 (t2 h).2).1 ht hz (t2 (t2 (t2 h).2).2).1 (t2 (t2 (t2 h).2).2).2 next
theorem qx {x : Operand} {xs : List E} {y : E} {k s : Nat} (h : (hd st.env ops i X.n, opd st.env x, xs[k]?) = (some (.extract x k, s, gs), some (.tup xs), some y)) (next : Nx P X ops dr Q r i st log ⟨gs ++ [(x, .tup xs)], [], some s, some (.e y), [], []⟩) : Bs P X ops dr Q (r + 1) i st log :=
 QT (CV (t2 h).1) (t2 (t2 h).2).1 (t2 (t2 h).2).2 next
theorem qb {x : Operand} {y : E} {s : Nat} {el : TypeId} (h : (hd st.env ops i X.n, opd st.env x, st.bx s) = (some (.box el x, s, gs), some (.e y), none)) (next : Nx P X ops dr Q r i st log ⟨gs ++ [(x, .e y)], [], some s, some (.e (.one (.ptr s 0))), [(s, .box y.cells)], [s]⟩) : Bs P X ops dr Q (r + 1) i st log :=
 VJ (CV (t2 h).1) (t2 (t2 h).2).1 (t2 (t2 h).2).2 next
theorem qz {z : Value} {zs : List Value} {s : Nat} {el : TypeId} (hz : D8 P el = some z) (h : (hd st.env ops i X.n, z.cells.toList, zs.all F6, st.bx s) = (some (.alloc el, s, gs), zs, true, none)) (next : Nx P X ops dr Q r i st log ⟨gs ++ [], [], some s, some (.e (.one (.ptr s 0))), [(s, .box (zs.map fun v => C.pure (T.of v)))], [s]⟩) : Bs P X ops dr Q (r + 1) i st log :=
 S3 (CV (t2 h).1) hz (t2 (t2 h).2).1 (t2 (t2 (t2 h).2).2).1 (t2 (t2 (t2 h).2).2).2 next
theorem qs {x y : Operand} {b k n : Nat} {cells cells' : List C} {v : E} {t : TypeId} (hz : GD P t n = true) (h : (OZ ops i, opd st.env x, opd st.env y, st.bx b, v.cells.length, Nat.ble (k + n) (cells.length), H4 cells k v.cells) = (some (.store t x y), some (.e (.one (.ptr b k))), some (.e v), some (.box cells), n, true, cells')) (next : Nx P X ops dr Q r i st log ⟨[(x, .e (.one (.ptr b k))), (y, .e v)], [(b, .box cells)], none, none, [(b, .box cells')], []⟩) : Bs P X ops dr Q (r + 1) i st log :=
 TA (t2 h).1 (t2 (t2 h).2).1 (t2 (t2 (t2 h).2).2).1 (t2 (t2 (t2 (t2 h).2).2).2).1 hz (t2 (t2 (t2 (t2 (t2 h).2).2).2).2).1 (Nat.le_of_ble_eq_true (t2 (t2 (t2 (t2 (t2 (t2 h).2).2).2).2).2).1) (t2 (t2 (t2 (t2 (t2 (t2 h).2).2).2).2).2).2 next
theorem qi {x y : Operand} {s e : Nat} {rows : List (List T)} {row : List T} {t el : TypeId} {k : IntKind} {n : Int} (ht : sliceB P t el = true) (hz : GD P el e = true) (h0 : 0 ≤ n) (hrow : rows[n.toNat]? = some row) (h : (hd st.env ops i X.n, opd st.env x, opd st.env y, row.length) = (some (.indexAddr t x y, s, gs), some (one (.sl rows)), some (vD (.int k n)), e)) (next : Nx P X ops dr Q r i st log ⟨gs ++ [(x, one (.sl rows)), (y, vD (.int k n))], [], some s, some (.e (.one (.rop row))), [], []⟩) : Bs P X ops dr Q (r + 1) i st log :=
 SZ (CV (t2 h).1) (t2 (t2 h).2).1 (t2 (t2 (t2 h).2).2).1 ht hz h0 hrow (t2 (t2 (t2 h).2).2).2 next
theorem qI {x y : Operand} {s e b : Nat} {rows : List (List T)} {row : List T} {t el : TypeId} {k : IntKind} {n : Int} (ht : sliceB P t el = true) (hz : GD P el e = true) (h0 : 0 ≤ n) (hrow : rows[n.toNat]? = some row) (h : (hd st.env ops i X.n, opd st.env x, opd st.env y, st.bx b) = (some (.indexAddr t x y, s, gs), some (.e (.one (.own b))), some (vD (.int k n)), some (.vec e rows))) (next : Nx P X ops dr Q r i st log ⟨gs ++ [(x, .e (.one (.own b))), (y, vD (.int k n))], [(b, .vec e rows)], some s, some (.e (.one (.eptr b e n.toNat 0))), [], []⟩) : Bs P X ops dr Q (r + 1) i st log :=
 R7 (CV (t2 h).1) (t2 (t2 h).2).1 (t2 (t2 (t2 h).2).2).1 (t2 (t2 (t2 h).2).2).2 ht hz h0 hrow next
theorem qj {x : Operand} {b e ix k s : Nat} {rows : List (List T)} {row : List T} {u : T} {t : TypeId} (ht : EN P t false = true) (hrow : rows[ix]? = some row) (h : (hd st.env ops i X.n, opd st.env x, st.bx b, row[k]?) = (some (.load t x, s, gs), some (.e (.one (.eptr b e ix k))), some (.vec e rows), some u)) (next : Nx P X ops dr Q r i st log ⟨gs ++ [(x, .e (.one (.eptr b e ix k)))], [(b, .vec e rows)], some s, some (one u), [], []⟩) : Bs P X ops dr Q (r + 1) i st log :=
 Sw (CV (t2 h).1) (t2 (t2 h).2).1 ht (t2 (t2 (t2 h).2).2).1 hrow (t2 (t2 (t2 h).2).2).2 next
theorem qJ {x : Operand} {b e ix s : Nat} {rows : List (List T)} {row : List T} {t : TypeId} (ht : EN P t true = true) (hz : GD P t e = true) (hrow : rows[ix]? = some row) (h : (hd st.env ops i X.n, opd st.env x, st.bx b) = (some (.load t x, s, gs), some (.e (.one (.eptr b e ix 0))), some (.vec e rows))) (next : Nx P X ops dr Q r i st log ⟨gs ++ [(x, .e (.one (.eptr b e ix 0)))], [(b, .vec e rows)], some s, some (.e (.agg (row.map C.pure))), [], []⟩) : Bs P X ops dr Q (r + 1) i st log :=
 Km (CV (t2 h).1) (t2 (t2 h).2).1 ht hz (t2 (t2 h).2).2 hrow next
theorem MH {x : Operand} {s b k : Nat} (h : (hd st.env ops i X.n, opd st.env x) = (some (.nilCheck x, s, gs), some (.e (.one (.ptr b k))))) (next : Nx P X ops dr Q r i st log ⟨gs ++ [(x, .e (.one (.ptr b k)))], [], some s, some (.e (.one (.ptr b k))), [], []⟩) : Bs P X ops dr Q (r + 1) i st log :=
 PS (CV (t2 h).1) (t2 h).2 next
theorem AX {k : IntKind} {xt yt : TypeId} {x y : Operand} {a b : Int} {s : Nat} (h : (hd st.env ops i X.n, opd st.env x, opd st.env y) = (some (.binOp .add xt x y yt, s, gs), some (vD (.int k a)), some (vD (.int k b)))) (next : Nx P X ops dr Q r i st log ⟨gs ++ [(x, vD (.int k a)), (y, vD (.int k b))], [], some s, some (vD (.int k (k.wrap (a + b)))), [], []⟩) : Bs P X ops dr Q (r + 1) i st log :=
 GK (CV (t2 h).1) (t2 (t2 h).2).1 (t2 (t2 h).2).2 (T0 _ _ _ _ _ _) rfl next
theorem Cp {k : IntKind} {xt yt : TypeId} {x y : Operand} {a b : Int} {s : Nat} (h : (hd st.env ops i X.n, opd st.env x, opd st.env y) = (some (.binOp .sub xt x y yt, s, gs), some (vD (.int k a)), some (vD (.int k b)))) (next : Nx P X ops dr Q r i st log ⟨gs ++ [(x, vD (.int k a)), (y, vD (.int k b))], [], some s, some (vD (.int k (k.wrap (a - b)))), [], []⟩) : Bs P X ops dr Q (r + 1) i st log :=
 GK (CV (t2 h).1) (t2 (t2 h).2).1 (t2 (t2 h).2).2 (Tk _ _ _ _ _ _) rfl next
theorem HA {k : IntKind} {xt yt : TypeId} {x y : Operand} {a b : Int} {s : Nat} (h : (hd st.env ops i X.n, opd st.env x, opd st.env y) = (some (.binOp .mul xt x y yt, s, gs), some (vD (.int k a)), some (vD (.int k b)))) (next : Nx P X ops dr Q r i st log ⟨gs ++ [(x, vD (.int k a)), (y, vD (.int k b))], [], some s, some (vD (.int k (k.wrap (a * b)))), [], []⟩) : Bs P X ops dr Q (r + 1) i st log :=
 GK (CV (t2 h).1) (t2 (t2 h).2).1 (t2 (t2 h).2).2 (TY _ _ _ _ _ _) rfl next
theorem BD {k : IntKind} {xt yt : TypeId} {x y : Operand} {a b : Int} {s : Nat} (h : (hd st.env ops i X.n, opd st.env x, opd st.env y) = (some (.binOp .eql xt x y yt, s, gs), some (vD (.int k a)), some (vD (.int k b)))) (next : Nx P X ops dr Q r i st log ⟨gs ++ [(x, vD (.int k a)), (y, vD (.int k b))], [], some s, some (vD (.bool (a == b))), [], []⟩) : Bs P X ops dr Q (r + 1) i st log :=
 GK (CV (t2 h).1) (t2 (t2 h).2).1 (t2 (t2 h).2).2 (TZ _ _ _ _ _ _) rfl next
theorem B6 {k : IntKind} {xt yt : TypeId} {x y : Operand} {a b : Int} {s : Nat} (h : (hd st.env ops i X.n, opd st.env x, opd st.env y) = (some (.binOp .neq xt x y yt, s, gs), some (vD (.int k a)), some (vD (.int k b)))) (next : Nx P X ops dr Q r i st log ⟨gs ++ [(x, vD (.int k a)), (y, vD (.int k b))], [], some s, some (vD (.bool (a != b))), [], []⟩) : Bs P X ops dr Q (r + 1) i st log :=
 GK (CV (t2 h).1) (t2 (t2 h).2).1 (t2 (t2 h).2).2 (TX _ _ _ _ _ _) rfl next
theorem AZ {k : IntKind} {xt yt : TypeId} {x y : Operand} {a b : Int} {s : Nat} (h : (hd st.env ops i X.n, opd st.env x, opd st.env y) = (some (.binOp .lss xt x y yt, s, gs), some (vD (.int k a)), some (vD (.int k b)))) (next : Nx P X ops dr Q r i st log ⟨gs ++ [(x, vD (.int k a)), (y, vD (.int k b))], [], some s, some (vD (.bool (decide (a < b)))), [], []⟩) : Bs P X ops dr Q (r + 1) i st log :=
 GK (CV (t2 h).1) (t2 (t2 h).2).1 (t2 (t2 h).2).2 (T4 _ _ _ _ _ _) rfl next
theorem JH {k : IntKind} {xt yt : TypeId} {x y : Operand} {a b : Int} {s : Nat} (h : (hd st.env ops i X.n, opd st.env x, opd st.env y) = (some (.binOp .leq xt x y yt, s, gs), some (vD (.int k a)), some (vD (.int k b)))) (next : Nx P X ops dr Q r i st log ⟨gs ++ [(x, vD (.int k a)), (y, vD (.int k b))], [], some s, some (vD (.bool (decide (a ≤ b)))), [], []⟩) : Bs P X ops dr Q (r + 1) i st log :=
 GK (CV (t2 h).1) (t2 (t2 h).2).1 (t2 (t2 h).2).2 (Tg _ _ _ _ _ _) rfl next
theorem Ey {k : IntKind} {xt yt : TypeId} {x y : Operand} {a b : Int} {s : Nat} (h : (hd st.env ops i X.n, opd st.env x, opd st.env y) = (some (.binOp .gtr xt x y yt, s, gs), some (vD (.int k a)), some (vD (.int k b)))) (next : Nx P X ops dr Q r i st log ⟨gs ++ [(x, vD (.int k a)), (y, vD (.int k b))], [], some s, some (vD (.bool (decide (b < a)))), [], []⟩) : Bs P X ops dr Q (r + 1) i st log :=
 GK (CV (t2 h).1) (t2 (t2 h).2).1 (t2 (t2 h).2).2 (Tv _ _ _ _ _ _) rfl next
theorem CW {k : IntKind} {xt yt : TypeId} {x y : Operand} {a b : Int} {s : Nat} (h : (hd st.env ops i X.n, opd st.env x, opd st.env y) = (some (.binOp .geq xt x y yt, s, gs), some (vD (.int k a)), some (vD (.int k b)))) (next : Nx P X ops dr Q r i st log ⟨gs ++ [(x, vD (.int k a)), (y, vD (.int k b))], [], some s, some (vD (.bool (decide (b ≤ a)))), [], []⟩) : Bs P X ops dr Q (r + 1) i st log :=
 GK (CV (t2 h).1) (t2 (t2 h).2).1 (t2 (t2 h).2).2 (Th _ _ _ _ _ _) rfl next
theorem Jx {k : IntKind} {xt yt : TypeId} {x y : Operand} {a b : Int} {s : Nat} (h : (hd st.env ops i X.n, opd st.env x, opd st.env y) = (some (.binOp .and xt x y yt, s, gs), some (vD (.int k a)), some (vD (.int k b)))) (next : Nx P X ops dr Q r i st log ⟨gs ++ [(x, vD (.int k a)), (y, vD (.int k b))], [], some s, some (vD (.int k (EC k a b))), [], []⟩) : Bs P X ops dr Q (r + 1) i st log :=
 GK (CV (t2 h).1) (t2 (t2 h).2).1 (t2 (t2 h).2).2 (Td _ _ _ _ _ _) rfl next
theorem Ss {k : IntKind} {xt yt : TypeId} {x y : Operand} {a b : Int} {s : Nat} (h : (hd st.env ops i X.n, opd st.env x, opd st.env y) = (some (.binOp .or xt x y yt, s, gs), some (vD (.int k a)), some (vD (.int k b)))) (next : Nx P X ops dr Q r i st log ⟨gs ++ [(x, vD (.int k a)), (y, vD (.int k b))], [], some s, some (vD (.int k (Ls k a b))), [], []⟩) : Bs P X ops dr Q (r + 1) i st log :=
 GK (CV (t2 h).1) (t2 (t2 h).2).1 (t2 (t2 h).2).2 (UB _ _ _ _ _ _) rfl next
theorem Hw {k : IntKind} {xt yt : TypeId} {x y : Operand} {a b : Int} {s : Nat} (h : (hd st.env ops i X.n, opd st.env x, opd st.env y) = (some (.binOp .andNot xt x y yt, s, gs), some (vD (.int k a)), some (vD (.int k b)))) (next : Nx P X ops dr Q r i st log ⟨gs ++ [(x, vD (.int k a)), (y, vD (.int k b))], [], some s, some (vD (.int k (CJ k a b))), [], []⟩) : Bs P X ops dr Q (r + 1) i st log :=
 GK (CV (t2 h).1) (t2 (t2 h).2).1 (t2 (t2 h).2).2 (Px _ _ _ _ _ _) rfl next
theorem Re {k : IntKind} {xt yt : TypeId} {x y : Operand} {a b : Int} {s : Nat} (h : (hd st.env ops i X.n, opd st.env x, opd st.env y) = (some (.binOp .xor xt x y yt, s, gs), some (vD (.int k a)), some (vD (.int k b)))) (next : Nx P X ops dr Q r i st log ⟨gs ++ [(x, vD (.int k a)), (y, vD (.int k b))], [], some s, some (vD (.int k (FD k a b))), [], []⟩) : Bs P X ops dr Q (r + 1) i st log :=
 GK (CV (t2 h).1) (t2 (t2 h).2).1 (t2 (t2 h).2).2 (Tl _ _ _ _ _ _) rfl next
theorem G6 {k k' : IntKind} {xt yt : TypeId} {x y : Operand} {a b : Int} {s : Nat} (h : (hd st.env ops i X.n, opd st.env x, opd st.env y) = (some (.binOp .shl xt x y yt, s, gs), some (vD (.int k a)), some (vD (.int k' b)))) (hc : 0 ≤ b) (next : Nx P X ops dr Q r i st log ⟨gs ++ [(x, vD (.int k a)), (y, vD (.int k' b))], [], some s, some (vD (.int k (B3 k a b))), [], []⟩) : Bs P X ops dr Q (r + 1) i st log :=
 GK (CV (t2 h).1) (t2 (t2 h).2).1 (t2 (t2 h).2).2 (Tr _ _ _ _ _ _ _ hc) rfl next
theorem Gb {k k' : IntKind} {xt yt : TypeId} {x y : Operand} {a b : Int} {s : Nat} (h : (hd st.env ops i X.n, opd st.env x, opd st.env y) = (some (.binOp .shr xt x y yt, s, gs), some (vD (.int k a)), some (vD (.int k' b)))) (hc : 0 ≤ b) (next : Nx P X ops dr Q r i st log ⟨gs ++ [(x, vD (.int k a)), (y, vD (.int k' b))], [], some s, some (vD (.int k (Dx k a b))), [], []⟩) : Bs P X ops dr Q (r + 1) i st log :=
 GK (CV (t2 h).1) (t2 (t2 h).2).1 (t2 (t2 h).2).2 (S4 _ _ _ _ _ _ _ hc) rfl next
theorem Jv {k : IntKind} {xt yt : TypeId} {x y : Operand} {a b : Int} {s : Nat} (h : (hd st.env ops i X.n, opd st.env x, opd st.env y) = (some (.binOp .rem xt x y yt, s, gs), some (vD (.int k a)), some (vD (.int k b)))) (hc : b ≠ 0) (next : Nx P X ops dr Q r i st log ⟨gs ++ [(x, vD (.int k a)), (y, vD (.int k b))], [], some s, some (vD (.int k (a.tmod b))), [], []⟩) : Bs P X ops dr Q (r + 1) i st log :=
 GK (CV (t2 h).1) (t2 (t2 h).2).1 (t2 (t2 h).2).2 (Tf _ _ _ _ _ _ hc) rfl next
theorem L5 {k : IntKind} {xt yt : TypeId} {x y : Operand} {a b : Int} {s : Nat} (h : (hd st.env ops i X.n, opd st.env x, opd st.env y) = (some (.binOp .quo xt x y yt, s, gs), some (vD (.int k a)), some (vD (.int k b)))) (hc : b ≠ 0) (next : Nx P X ops dr Q r i st log ⟨gs ++ [(x, vD (.int k a)), (y, vD (.int k b))], [], some s, some (vD (.int k (k.wrap (a.tdiv b)))), [], []⟩) : Bs P X ops dr Q (r + 1) i st log :=
 GK (CV (t2 h).1) (t2 (t2 h).2).1 (t2 (t2 h).2).2 (TC _ _ _ _ _ _ hc) rfl next
theorem Cq {xt : TypeId} {x : Operand} {b : Bool} {s : Nat} (h : (hd st.env ops i X.n, opd st.env x) = (some (.unOp .not xt x, s, gs), some (bD b))) (next : Nx P X ops dr Q r i st log ⟨gs ++ [(x, bD b)], [], some s, some (vD (.bool (!b))), [], []⟩) : Bs P X ops dr Q (r + 1) i st log :=
 Xg (CV (t2 h).1) (t2 h).2 (UD _) rfl next
theorem FO {xt yt : TypeId} {k k' : IntKind} {x : Operand} {a : Int} {s : Nat} (hs : (P.underlying xt).isSome = true) (ht : Ly P yt k = true) (h : (hd st.env ops i X.n, opd st.env x) = (some (.convert xt yt x, s, gs), some (vD (.int k' a)))) (next : Nx P X ops dr Q r i st log ⟨gs ++ [(x, vD (.int k' a))], [], some s, some (vD (.int k (k.wrap a))), [], []⟩) : Bs P X ops dr Q (r + 1) i st log :=
 U7 (CV (t2 h).1) (t2 h).2 (SF hs ht _ _) rfl next
theorem AV {α : Type} {f : α → List T} {xs : List α} {x : Operand} {s : Nat} {t el : TypeId} (ht : sliceB P t el = true) (h : (hd st.env ops i X.n, opd st.env x) = (some (.call ⟨.builtin .len, #[x], #[t]⟩, s, gs), some (one (.sl (xs.map f))))) (next : Nx P X ops dr Q r i st log ⟨gs ++ [(x, one (.sl (xs.map f)))], [], some s, some (vD (.int .i64 (xs.length : Int))), [], []⟩) : Bs P X ops dr Q (r + 1) i st log :=
 Up (CV (t2 h).1) (t2 h).2 (.sl _) trivial (List.length_map _) ht next
theorem Dz {α : Type} {f : α → List T} {xs : List α} {x : Operand} {s b e : Nat} {t el : TypeId} (ht : sliceB P t el = true) (h : (hd st.env ops i X.n, opd st.env x, st.bx b) = (some (.call ⟨.builtin .len, #[x], #[t]⟩, s, gs), some (.e (.one (.own b))), some (.vec e (xs.map f)))) (next : Nx P X ops dr Q r i st log ⟨gs ++ [(x, .e (.one (.own b)))], [(b, .vec e (xs.map f))], some s, some (vD (.int .i64 (xs.length : Int))), [], []⟩) : Bs P X ops dr Q (r + 1) i st log :=
 Up (CV (t2 h).1) (t2 (t2 h).2).1 (.own _ _ _) ⟨(t2 (t2 h).2).2, trivial⟩ (List.length_map _) ht next
theorem Bz {t : TypeId} {s : Nat} {z : Value} {zs : List Value} {pl : List (Nat × Nat)} {cells : List C} {parts : Array (Nat × Operand)} {ps : List (Nat × Operand × E)} (hz : D8 P t = some z) (hpl : Hy P t = some pl) (h : (hd st.env ops i X.n, Vd st.env parts.toList, z.cells.toList, zs.all F6, Kc (pl[·]?) (zs.map fun v => C.pure (T.of v)) (ps.map fun p => (p.1, p.2.2))) = (some (.build t parts, s, gs), some ps, zs, true, some cells)) (next : Nx P X ops dr Q r i st log ⟨gs ++ Hg ps, [], some s, some (.e (.agg cells)), [], []⟩) : Bs P X ops dr Q (r + 1) i st log :=
 have q := Sv (t2 (t2 h).2).1
 SY ps (CV (t2 h).1) (by rw [← q.1]) q.2 hz (t2 (t2 (t2 h).2).2).1 (t2 (t2 (t2 (t2 h).2).2).2).1 hpl (t2 (t2 (t2 (t2 h).2).2).2).2 next
theorem DT {t el : TypeId} {s n e : Nat} {z : Value} {rows : List (List T)} {parts : Array (Nat × Operand)} {ps : List (Nat × Operand × E)} (ht : sliceB P t el = true) (he : GD P el e = true) (hz : D8 P el = some z) (h : (hd st.env ops i X.n, Vd st.env parts.toList, st.bx s, S8 0 ps, ps.length, Nat.ble (n * e) 16777216, (ps.map fun p => (p.1, p.2.2)).mapM (fun p => p.2.ts), rows.all (fun row => row.length == e)) = (some (.buildSlice t n parts, s, gs), some ps, none, true, n, true, some rows, true)) (next : Nx P X ops dr Q r i st log ⟨gs ++ Hg ps, [], some s, some (.e (.one (.own s))), [(s, .vec e rows)], [s]⟩) : Bs P X ops dr Q (r + 1) i st log :=
 have q := Sv (t2 (t2 h).2).1
 have g := (t2 (t2 (t2 h).2).2).2
 NR ps (CV (t2 h).1) (by rw [← q.1]) q.2 (t2 (t2 (t2 h).2).2).1 ht he hz (Qw (t2 g).1) (t2 (t2 g).2).1 (Nat.le_of_ble_eq_true (t2 (t2 (t2 g).2).2).1) (t2 (t2 (t2 (t2 g).2).2).2).1 (t2 (t2 (t2 (t2 g).2).2).2).2 next
theorem AG {f s : Nat} {xs : List Operand} {ds0 ds : List D} {rv : List (Nat × List (List T))} {res : D} {ts : Array TypeId} (ns : List Nat) (hc : AB P f ds rv res) (hf : AN P f = true) (h : (hd st.env ops i X.n, RW st.env xs, ds0.map D.nrm, ds.all Rc, ns.length, HP ns && (ns.all fun n => !BY n), ns.all (fun n => WN (st.bx n)), res.names.all (fun b => decide (b < rv.length))) = (some (.call ⟨.value (.func f), xs.toArray, ts⟩, s, gs), some ds0, ds, true, rv.length, true, true, true)) (next : Nx P X ops dr Q r i st log ⟨gs ++ HX xs ds0, [], some s, some (res.ren (nm ns)), IH ns rv, ns⟩) : Bs P X ops dr Q (r + 1) i st log :=
 have q := NS (t2 (t2 h).2).1
 have g := (t2 (t2 (t2 h).2).2).2
 UC ns hc (CV (t2 h).1) hf q.1 q.2 (t2 (t2 (t2 h).2).2).1 (t2 g).1 (t2 (t2 g).2).1 (MZ (t2 (t2 (t2 g).2).2).1) (Oj (t2 (t2 (t2 (t2 g).2).2).2).1) (t2 (t2 (t2 (t2 g).2).2).2).2 next
theorem FG {f s : Nat} {xs : List Operand} {ds0 ds : List D} {rv : List (Nat × List (List T))} {res : D} {ts : Array TypeId} {bs : List (Nat × BE)} (ns lb : List Nat) (hc : AB P f ds rv res) (hf : AN P f = true) (hfv : OL rv) (h : (hd st.env ops i X.n, RW st.env xs, WE st.bx lb, ds0.map (fun d => (d.lend bs).nrm), ds.all Rc, ns.length, HP ns && (ns.all fun n => !BY n), ns.all (fun n => WN (st.bx n)), res.flat, res.names.all (fun b => decide (b < rv.length))) = (some (.call ⟨.value (.func f), xs.toArray, ts⟩, s, gs), some ds0, some bs, ds, true, rv.length, true, true, true, true)) (next : Nx P X ops dr Q r i st log ⟨gs ++ HX xs ds0, bs, some s, some (res.ren (nm ns)), IH ns rv, ns⟩) : Bs P X ops dr Q (r + 1) i st log :=
 have q := NS (t2 (t2 h).2).1
 have g := (t2 (t2 (t2 h).2).2).2
 have g2 := (t2 (t2 (t2 g).2).2).2
 SV ns bs hc (CV (t2 h).1) hf q.1 q.2 (R3 (t2 (t2 (t2 h).2).2).1) (t2 g).1 (t2 (t2 g).2).1 (t2 (t2 (t2 g).2).2).1 (MZ (t2 g2).1) (Oj (t2 (t2 g2).2).1) (t2 (t2 (t2 g2).2).2).1 hfv (t2 (t2 (t2 g2).2).2).2 next
theorem CQ {α : Type} {f : α → List T} {xs : List α} {ys : List α} {x y : Operand} {t t2' el el2 s e bytes b b2 : Nat} {z : Value} (ht : sliceB P t el = true) (ht2 : sliceB P t2' el2 = true) (he : GD P el e = true) (hby : Fb P el bytes = true) (hz : D8 P el = some z) (hlim : xs.length + ys.length ≤ D2) (h : (hd st.env ops i X.n, opd st.env x, st.bx b, opd st.env y, st.bx b2, st.bx s, z.cells.size, Nat.ble bytes 4096, [b].all (fun b => !BY b)) = (some (.call ⟨.builtin .append, #[x, y], #[t, t2']⟩, s, gs), some (.e (.one (.own b))), some (.vec e (xs.map f)), some (.e (.one (.own b2))), some (.vec e (ys.map f)), none, e, true, true)) (next : Nx P X ops dr Q r i st log ⟨gs ++ [(x, .e (.one (.own b))), (y, .e (.one (.own b2)))], [(b, .vec e (xs.map f))] ++ [(b2, .vec e (ys.map f))], some s, some (.e (.one (.own s))), (s, .vec e ((xs ++ ys).map f)) :: IT [b], [s]⟩) : Bs P X ops dr Q (r + 1) i st log :=
 Pj (CV (t2 h).1) (t2 (t2 h).2).1 (.own _ _ _) ⟨(t2 (t2 (t2 h).2).2).1, trivial⟩ (t2 (t2 (t2 (t2 h).2).2).2).1 (.own _ _ _) ⟨(t2 (t2 (t2 (t2 (t2 h).2).2).2).2).1, trivial⟩ (t2 (t2 (t2 (t2 (t2 (t2 h).2).2).2).2).2).1 ht ht2 he hby (Nat.le_of_ble_eq_true (t2 (t2 (t2 (t2 (t2 (t2 (t2 (t2 h).2).2).2).2).2).2).2).1) hz (t2 (t2 (t2 (t2 (t2 (t2 (t2 h).2).2).2).2).2).2).1 (by simpa using hlim) (by simp) (t2 (t2 (t2 (t2 (t2 (t2 (t2 (t2 h).2).2).2).2).2).2).2).2 next
theorem Mw {α : Type} {f : α → List T} {xs : List α} {ys : List α} {x y : Operand} {t t2' el el2 s e bytes b : Nat} {z : Value} (ht : sliceB P t el = true) (ht2 : sliceB P t2' el2 = true) (he : GD P el e = true) (hby : Fb P el bytes = true) (hz : D8 P el = some z) (hf : ∀ x, (f x).length = e) (hlim : xs.length + ys.length ≤ D2) (h : (hd st.env ops i X.n, opd st.env x, st.bx b, opd st.env y, st.bx s, z.cells.size, Nat.ble bytes 4096, [b].all (fun b => !BY b)) = (some (.call ⟨.builtin .append, #[x, y], #[t, t2']⟩, s, gs), some (.e (.one (.own b))), some (.vec e (xs.map f)), some (one (.sl (ys.map f))), none, e, true, true)) (next : Nx P X ops dr Q r i st log ⟨gs ++ [(x, .e (.one (.own b))), (y, one (.sl (ys.map f)))], [(b, .vec e (xs.map f))] ++ [], some s, some (.e (.one (.own s))), (s, .vec e ((xs ++ ys).map f)) :: IT [b], [s]⟩) : Bs P X ops dr Q (r + 1) i st log :=
 Pj (CV (t2 h).1) (t2 (t2 h).2).1 (.own _ _ _) ⟨(t2 (t2 (t2 h).2).2).1, trivial⟩ (t2 (t2 (t2 (t2 h).2).2).2).1 (.sl _ _ (My hf _)) trivial (t2 (t2 (t2 (t2 (t2 h).2).2).2).2).1 ht ht2 he hby (Nat.le_of_ble_eq_true (t2 (t2 (t2 (t2 (t2 (t2 (t2 h).2).2).2).2).2).2).1) hz (t2 (t2 (t2 (t2 (t2 (t2 h).2).2).2).2).2).1 (by simpa using hlim) (by simp) (t2 (t2 (t2 (t2 (t2 (t2 (t2 h).2).2).2).2).2).2).2 next
end run
end Go.Lift
namespace Go.Lift
open Go.RowKit
variable {P : Program}
def VT (P : Program) : List D → List D → Prop
 | [], [] => True
 | a :: ar, b :: bs => (∀ (w : World) (G : Gh) (v : Value), F7 P w G v a → F7 P w G v b) ∧ VT P ar bs
 | _, _ => False
theorem VT.get : ∀ {ar bs : List D}, VT P ar bs → ar.length = bs.length ∧ ∀ (j : Nat) (b : D), bs[j]? = some b → ∃ a, ar[j]? = some a ∧ ∀ (w : World) (G : Gh) (v : Value), F7 P w G v a → F7 P w G v b
 | [], [], _ => ⟨rfl, fun j b h => by simp at h⟩
 | a :: ar, b :: bs, h => by
  obtain ⟨h1, h2⟩ := VT.get h.2
  refine ⟨by simp [h1], fun j c hj => ?_⟩
  cases j with
  | zero => simp at hj; subst hj; exact ⟨a, rfl, h.1⟩
  | succ j => obtain ⟨a', g1, g2⟩ := h2 j c (by simpa using hj); exact ⟨a', by simpa using g1, g2⟩
theorem By.weak {f : FuncId} {ds ds' : List D} {lent : List (BE × BE)} {rv : List BE} {res : D} (h : By P f ds lent rv res) (hp : VT P ds' ds) : By P f ds' lent rv res := by
 intro w G vs h1 h2 h3 h4 hlen hargs
 obtain ⟨g1, g2⟩ := hp.get
 refine h w G vs h1 h2 h3 h4 (by rw [hlen, g1]) fun j d hj => ?_
 obtain ⟨a, e1, e2⟩ := g2 j d hj
 exact e2 w G _ (hargs j a e1)
theorem Mz {f : FuncId} {g : List (Bool × List T) → Option T} (hf : AN P f = true) (hclo : ∀ ar t, g ar = some t → AB P f (ar.map Oe) [] (one t)) {w : World} {G : Gh} {v : Value} (h : F7 P w G v (.e (.one (.fnc f)))) : F7 P w G v (.e (.one (.clo g))) :=
 TS (S := G.S) hf hclo h
end Go.Lift
namespace Go.Lift
open Go.RowKit
variable {P : Program} {X : Ic} {ops : Array Oper}
theorem Ie {α : Type} {xs : List α} {lo len i : Nat} {x : α} (h : ((xs.drop lo).take len)[i]? = some x) : i < len ∧ xs[lo + i]? = some x := by
 rw [List.getElem?_take] at h
 split at h
 ·rename_i h1; rw [List.getElem?_drop] at h; exact ⟨h1, h⟩
 ·cases h
section run
variable {dr : Bool} {Q : St → Prop} {r i : Nat} {st : St} {log : List (Nat × CR)} {gs : List (Operand × D)}
theorem KU {α : Type} (f : α → List T) (xs : List α) {x y : Operand} {s e b lo len q : Nat} {t el : TypeId} {k : IntKind} {n : Int} (hat : At st.env ops i X.n (.indexAddr t x y) s gs)
  (hx : opd st.env x = some (.e (.one (.view b e lo len)))) (hle : lo + len ≤ xs.length) (hy : opd st.env y = some (vD (.int k n))) (hb : st.bx b = some (.vec e (xs.map f))) (ht : sliceB P t el = true) (hz : GD P el e = true) (h0 : 0 ≤ n) (hn1 : n.toNat < len) (hq : lo + n.toNat = q)
  (next : Nx P X ops dr Q r i st log ⟨gs ++ [(x, .e (.one (.view b e lo len))), (y, vD (.int k n))], [(b, .vec e (xs.map f))], some s, some (.e (.one (.eptr b e q 0))), [], []⟩) : Bs P X ops dr Q (r + 1) i st log := by
 subst hq
 exact Ri (row := []) hat hx (by simpa using hle) hy hb ht hz h0 hn1 next
end run
end Go.Lift
namespace Go.Lift
abbrev iC (x : Int) : C := .pure (.val (.int .i64 x))
abbrev sC (l : List (List T)) : C := .pure (.sl l)
abbrev iD (x : Int) : D := .e (.one (.pure (.val (.int .i64 x))))
abbrev pD (t : T) : D := .e (.one (.pure t))
abbrev oD (c : C) : D := .e (.one c)
theorem tv : True := trivial
end Go.Lift
namespace Go.Lift
open Go.RowKit
variable {P : Program} {X : Ic} {ops : Array Oper}
section run
variable {dr : Bool} {Q : St → Prop} {r i : Nat} {st : St} {log : List (Nat × CR)} {o : Oper} {gs : List (Operand × D)}
end run
end Go.Lift
namespace Go.Lift
open Go.RowKit
variable {P : Program} {X : Ic} {ops : Array Oper}
def nt (b : Nat) (ns : List Nat) (c : Nat) : Nat := if c = 90900 then b else ns.getD c 0
section run
variable {dr : Bool} {Q : St → Prop} {r i : Nat} {st : St} {log : List (Nat × CR)} {o : Oper} {gs : List (Operand × D)}
end run
end Go.Lift
namespace Go.Lift
open Go.RowKit
variable {P : Program} {X : Ic} {ops : Array Oper}
end Go.Lift
namespace Go.Lift
def Ai (n : Int) : List T := [.val (.int .i64 n)]
def A9 (n : Int) : List T := [.val (.int .u8 n)]
def Xf (n : Int) : List T := [.val (.int .u16 n)]
abbrev Cr (n : Int) : T := .val (.int .i64 n)
abbrev tB (b : Bool) : T := .val (.bool b)
def eB (b : Bool) : List T := [.val (.bool b)]
def EP {α : Type} (f : α → List T) (xs : List α) : List T := [.sl (xs.map f)]
theorem Sl : SR Ai := ⟨by intro x y h; simpa [Ai] using h⟩
theorem V5 : SR A9 := ⟨by intro x y h; simpa [A9] using h⟩
theorem W6 : SR eB := ⟨by intro x y h; simpa [eB] using h⟩
theorem Wg {α : Type} {f : α → List T} (h : SR f) : SR (EP f) := ⟨by intro x y hx; simp only [EP, List.cons.injEq, T.sl.injEq, and_true] at hx; exact J4 h.inj _ _ hx⟩
structure GV where
 fKind : Int
 fFrom : Int
 fTo : Int
 fAware : Bool
 fBad : Int
 fLost : Int
def B0 (x : GV) : List T := [.val (.int .u8 x.fKind), .val (.int .u8 x.fFrom), .val (.int .u8 x.fTo), .val (.bool x.fAware), .val (.int .u16 x.fBad), .val (.int .u16 x.fLost)]
structure Cd where
 fVersions : List Int
 fNow : List Int
 fTarget : List Int
 fLinks : List GV
def JW (x : Cd) : List T := [.sl (x.fVersions.map A9), .sl (x.fNow.map A9), .sl (x.fTarget.map A9), .sl (x.fLinks.map B0)]
structure AO where
 fKind : Int
 fFrom : Int
 fTo : Int
 fAware : Bool
 fOK : List (List Bool)
 fRewrite : List (List Bool)
def Ao (x : AO) : List T := [.val (.int .i64 x.fKind), .val (.int .i64 x.fFrom), .val (.int .i64 x.fTo), .val (.bool x.fAware), .sl (x.fOK.map (EP eB)), .sl (x.fRewrite.map (EP eB))]
structure Ag where
 fVersions : List Int
 fNow : List Int
 fTarget : List Int
 fTables : List AO
structure Ae where
 fBase : List Int
 fNext : List Int
 fHeld : List Int
def Af (x : Ae) : List T := [.sl (x.fBase.map Ai), .sl (x.fNext.map Ai), .sl (x.fHeld.map A9)]
theorem Bp : SR Af := ⟨by
 rintro ⟨a1, a2, a3⟩ ⟨b1, b2, b3⟩ h
 simp only [Af, List.cons.injEq, T.sl.injEq, and_true] at h
 obtain ⟨h1, h2, h3⟩ := h
 have h1 := J4 Sl.inj _ _ h1
 subst h1
 have h2 := J4 Sl.inj _ _ h2
 subst h2
 have h3 := J4 V5.inj _ _ h3
 subst h3
 rfl⟩
structure AW where
 fTable : Int
 fWriter : Int
 fReader : Int
def Cb (x : AW) : List T := [.val (.int .i64 x.fTable), .val (.int .i64 x.fWriter), .val (.int .i64 x.fReader)]
structure Aj where
 fKind : Int
 fIndex : Int
 fVersion : Int
def Ay (x : Aj) : List T := [.val (.int .i64 x.fKind), .val (.int .i64 x.fIndex), .val (.int .i64 x.fVersion)]
theorem L1 : SR Ay := ⟨by
 rintro ⟨a1, a2, a3⟩ ⟨b1, b2, b3⟩ h
 simp only [Ay, List.cons.injEq, T.val.injEq, Value.int.injEq, and_true, true_and] at h
 obtain ⟨h1, h2, h3⟩ := h
 subst h1
 subst h2
 subst h3
 rfl⟩
end Go.Lift
namespace Go.Lift
open IntKind renaming wrap → wI
def Dl (_ : Nat) (p0 : List Int) (p1 : Int) : Option Int :=
 AT ((decide (p1 < (p0.length : Int))))
  ((A4 p0 p1).bind fun v2 =>
  some ((wI .i64 v2)))
  (some 0)
def Ba (_ : Nat) (p0 : AO) : Option Bool :=
 A7 (fun (v1 : Bool) =>
  some v1)
 fun j1 =>
 AT ((p0.fKind == 3))
  (j1 true)
  (j1 (p0.fKind == 4))
def B5 (N : Nat) (p1 : Int) (p2 : Int) (p3 : Bool) (v1 : (List (List Bool)) × Int) (j4 : ((List Bool)) → Option ((List (List Bool)))) : Nat → ((List Bool) × Int) → Option ((List (List Bool)))
 | 0, _ => none
 | n4 + 1, v4 =>
  AT ((decide (v4.2 < p1)))
   (A7 (fun (v7 : (List Bool)) =>
    B5 N p1 p2 p3 v1 j4 n4 (v7, (wI .i64 (v4.2 + 1))))
   fun j7 =>
   AT p3
    (AT ((v1.2 == v4.2))
     ((DB (v4.1.length + (([true] : List Bool)).length ≤ D2)).bind fun _ =>
     j7 (v4.1 ++ (([true] : List Bool))))
     ((DB (0 ≤ (wI .i64 ((wI .i64 (3 * v1.2)) + v4.2)))).bind fun _ =>
     (DB (v4.1.length + (([((Int.tmod ((Dx .u16 p2 ((wI .i64 ((wI .i64 (3 * v1.2)) + v4.2))))) 2) == 0)] : List Bool)).length ≤ D2)).bind fun _ =>
     j7 (v4.1 ++ (([((Int.tmod ((Dx .u16 p2 ((wI .i64 ((wI .i64 (3 * v1.2)) + v4.2))))) 2) == 0)] : List Bool)))))
    ((DB (0 ≤ (wI .i64 ((wI .i64 (3 * v1.2)) + v4.2)))).bind fun _ =>
    (DB (v4.1.length + (([((Int.tmod ((Dx .u16 p2 ((wI .i64 ((wI .i64 (3 * v1.2)) + v4.2))))) 2) == 0)] : List Bool)).length ≤ D2)).bind fun _ =>
    j7 (v4.1 ++ (([((Int.tmod ((Dx .u16 p2 ((wI .i64 ((wI .i64 (3 * v1.2)) + v4.2))))) 2) == 0)] : List Bool)))))
   (j4 v4.1)
def B2 (N : Nat) (p0 : Int) (p1 : Int) (p2 : Int) (p3 : Bool) (j1 : ((List (List Bool))) → Option ((List (List Bool)))) : Nat → ((List (List Bool)) × Int) → Option ((List (List Bool)))
 | 0, _ => none
 | n1 + 1, v1 =>
  AT ((decide (v1.2 < p0)))
   (B5 N p1 p2 p3 v1 (fun (v5 : (List Bool)) =>
    (DB (v1.1.length + (([v5] : List (List Bool))).length ≤ D2)).bind fun _ =>
    B2 N p0 p1 p2 p3 j1 n1 (v1.1 ++ (([v5] : List (List Bool))), (wI .i64 (v1.2 + 1)))) N (([] : List Bool), 0))
   (j1 v1.1)
def Dm (N : Nat) (p0 : Int) (p1 : Int) (p2 : Int) (p3 : Bool) : Option ((List (List Bool))) :=
 B2 N p0 p1 p2 p3 (fun (v2 : (List (List Bool))) =>
  some v2) N (([] : List (List Bool)), 0)
def Cj (N : Nat) (p0 : Cd) (j4 : ((List Int) × (List Int) × (List Int)) → Option (Ag × Bool)) : Nat → ((List Int) × (List Int) × (List Int) × Int) → Option (Ag × Bool)
 | 0, _ => none
 | n4 + 1, v4 =>
  AT ((decide (v4.2.2.2 < (p0.fVersions.length : Int))))
   ((A4 p0.fVersions v4.2.2.2).bind fun v7 =>
   (DB (v4.1.length + (([(wI .i64 (1 + (wI .i64 ((Int.tmod v7 3)))))] : List Int)).length ≤ D2)).bind fun _ =>
   (Dl N p0.fNow v4.2.2.2).bind fun v9 =>
   (DB ((wI .i64 (1 + (wI .i64 ((Int.tmod v7 3))))) ≠ 0)).bind fun _ =>
   (DB (v4.2.1.length + (([(Int.tmod v9 ((wI .i64 (1 + (wI .i64 ((Int.tmod v7 3)))))))] : List Int)).length ≤ D2)).bind fun _ =>
   (Dl N p0.fTarget v4.2.2.2).bind fun v12 =>
   (DB ((wI .i64 (1 + (wI .i64 ((Int.tmod v7 3))))) ≠ 0)).bind fun _ =>
   (DB (v4.2.2.1.length + (([(Int.tmod v12 ((wI .i64 (1 + (wI .i64 ((Int.tmod v7 3)))))))] : List Int)).length ≤ D2)).bind fun _ =>
   Cj N p0 j4 n4 (v4.1 ++ (([(wI .i64 (1 + (wI .i64 ((Int.tmod v7 3)))))] : List Int)), v4.2.1 ++ (([(Int.tmod v9 ((wI .i64 (1 + (wI .i64 ((Int.tmod v7 3)))))))] : List Int)), v4.2.2.1 ++ (([(Int.tmod v12 ((wI .i64 (1 + (wI .i64 ((Int.tmod v7 3)))))))] : List Int)), (wI .i64 (v4.2.2.2 + 1))))
   (j4 (v4.1, v4.2.1, v4.2.2.1))
def Bq (N : Nat) (p0 : Cd) (v5 : (List Int) × (List Int) × (List Int)) (j15 : ((List AO)) → Option (Ag × Bool)) : Nat → ((List AO) × Int) → Option (Ag × Bool)
 | 0, _ => none
 | n15 + 1, v15 =>
  A7 (fun (v17 : Bool) =>
   AT v17
    ((A4 p0.fLinks v15.2).bind fun v20 =>
    (DB ((v5.1.length : Int) ≠ 0)).bind fun _ =>
    (DB ((v5.1.length : Int) ≠ 0)).bind fun _ =>
    A7 (fun (v23 : Bool) =>
     (A4 v5.1 ((Int.tmod ((wI .i64 v20.fFrom)) ((v5.1.length : Int))))).bind fun v26 =>
     (A4 v5.1 ((Int.tmod ((wI .i64 v20.fTo)) ((v5.1.length : Int))))).bind fun v27 =>
     (Dm N v26 v27 v20.fBad false).bind fun v28 =>
     A7 (fun (v29 : (List (List Bool))) =>
      (DB (v15.1.length + (([(AO.mk ((wI .i64 (1 + (wI .i64 ((Int.tmod v20.fKind 4)))))) ((Int.tmod ((wI .i64 v20.fFrom)) ((v5.1.length : Int)))) ((Int.tmod ((wI .i64 v20.fTo)) ((v5.1.length : Int)))) v23 v28 v29)] : List AO)).length ≤ D2)).bind fun _ =>
      Bq N p0 v5 j15 n15 (v15.1 ++ (([(AO.mk ((wI .i64 (1 + (wI .i64 ((Int.tmod v20.fKind 4)))))) ((Int.tmod ((wI .i64 v20.fFrom)) ((v5.1.length : Int)))) ((Int.tmod ((wI .i64 v20.fTo)) ((v5.1.length : Int)))) v23 v28 v29)] : List AO)), (wI .i64 (v15.2 + 1))))
     fun j29 =>
     AT (((wI .i64 (1 + (wI .i64 ((Int.tmod v20.fKind 4))))) == 4))
      ((A4 v5.1 ((Int.tmod ((wI .i64 v20.fFrom)) ((v5.1.length : Int))))).bind fun v31 =>
      (A4 v5.1 ((Int.tmod ((wI .i64 v20.fFrom)) ((v5.1.length : Int))))).bind fun v32 =>
      (Dm N v31 v32 v20.fLost true).bind fun v33 =>
      j29 v33)
      (j29 ([] : List (List Bool))))
    fun j23 =>
    AT v20.fAware
     ((Ba N ((AO.mk ((wI .i64 (1 + (wI .i64 ((Int.tmod v20.fKind 4)))))) ((Int.tmod ((wI .i64 v20.fFrom)) ((v5.1.length : Int)))) ((Int.tmod ((wI .i64 v20.fTo)) ((v5.1.length : Int)))) false (([] : List (List Bool))) (([] : List (List Bool)))))).bind fun v25 =>
     j23 (!v25))
     (j23 false))
    (j15 v15.1))
  fun j17 =>
  AT ((decide (v15.2 < (p0.fLinks.length : Int))))
   (j17 (decide (0 < (v5.1.length : Int))))
   (j17 false)
def Em (N : Nat) (p0 : Cd) : Option (Ag × Bool) :=
 A7 (fun (v1 : Bool) =>
  AT v1
   (some ((Ag.mk (([] : List Int)) (([] : List Int)) (([] : List Int)) (([] : List AO))), false))
   (Cj N p0 (fun (v5 : (List Int) × (List Int) × (List Int)) =>
    Bq N p0 v5 (fun (v16 : (List AO)) =>
     some ((Ag.mk v5.1 v5.2.1 v5.2.2 v16), true)) N (([] : List AO), 0)) N (([] : List Int), ([] : List Int), ([] : List Int), 0)))
 fun j1 =>
 AT ((decide (3 < (p0.fVersions.length : Int))))
  (j1 true)
  (j1 (decide (4 < (p0.fLinks.length : Int))))
def Co (_ : Nat) (p0 : Bool) : Option Ag :=
 some ((Ag.mk (([2] : List Int)) (([0] : List Int)) (([1] : List Int)) (([(AO.mk 1 0 0 false (([([true, true] : List Bool), ([p0, true] : List Bool)] : List (List Bool))) (([] : List (List Bool))))] : List AO))))
def Dp (_ : Nat) (p0 : Int) (p1 : Int) : Option Bool :=
 A7 (fun (v1 : Bool) =>
  some v1)
 fun j1 =>
 AT ((decide (0 ≤ p0)))
  (j1 (decide (p0 < p1)))
  (j1 false)
def FC (_ : Nat) (p0 : Int) (p1 : Bool) : Option Bool :=
 A7 (fun (v1 : Bool) =>
  some v1)
 fun j1 =>
 AT ((p0 == 1))
  (j1 true)
  (AT ((p0 == 2))
   (j1 true)
   (AT ((p0 == 3))
    (j1 (!p1))
    (AT ((p0 == 4))
     (j1 (!p1))
     (j1 false))))
def Dj (_ : Nat) (p0 : List Bool) (p1 : Int) : Option Bool :=
 some (((p0.length : Int) != p1))
def Bk (N : Nat) (p0 : List (List Bool)) (p1 : (List Bool) → Option Bool) (j1 : Unit → Option Int) : Nat → Int → Option Int
 | 0, _ => none
 | n1 + 1, v1 =>
  AT ((decide (v1 < (p0.length : Int))))
   ((A4 p0 v1).bind fun v4 =>
   (p1 v4).bind fun v5 =>
   AT v5
    (some v1)
    (Bk N p0 p1 j1 n1 (wI .i64 (v1 + 1))))
   (j1 ())
def CU (N : Nat) (p0 : List (List Bool)) (p1 : (List Bool) → Option Bool) : Option Int :=
 Bk N p0 p1 (fun (_ : Unit) =>
  some ((-1))) N 0
def Ct (N : Nat) (p0 : List (List Bool)) (p1 : (List Bool) → Option Bool) : Option Bool :=
 (CU N p0 p1).bind fun v1 =>
 some ((decide (0 ≤ v1)))
def Eg (N : Nat) (p0 : List (List Bool)) (p1 : Int) (p2 : Int) : Option Bool :=
 A7 (fun (v1 : Bool) =>
  some v1)
 fun j1 =>
 AT (((p0.length : Int) == p1))
  ((Ct N p0 ((fun (x : List Bool) => Dj N x p2))).bind fun v3 =>
  j1 (!v3))
  (j1 false)
def CG (N : Nat) (p1 : AO) (j19 : Unit → Option Int) : Nat → Int → Option Int
 | 0, _ => none
 | n19 + 1, v19 =>
  AT ((decide (v19 < (p1.fRewrite.length : Int))))
   ((A4 p1.fRewrite v19).bind fun v22 =>
   (A4 v22 v19).bind fun v23 =>
   AT ((!v23))
    (some 1)
    (CG N p1 j19 n19 (wI .i64 (v19 + 1))))
   (j19 ())
def Ff (N : Nat) (p0 : Ag) (p1 : AO) : Option Int :=
 (FC N p1.fKind p1.fAware).bind fun v1 =>
 AT ((!v1))
  (some 1)
  (A7 (fun (v3 : Bool) =>
   AT v3
    (some 4)
    ((A4 p0.fVersions p1.fFrom).bind fun v8 =>
    A7 (fun (v9 : Bool) =>
     AT v9
      (some 6)
      (CG N p1 (fun (_ : Unit) =>
       some 0) N 0))
    fun j9 =>
    (A4 p0.fVersions p1.fTo).bind fun v10 =>
    (Eg N p1.fOK v8 v10).bind fun v11 =>
    AT ((!v11))
     (j9 true)
     (AT ((p1.fKind == 4))
      ((Eg N p1.fRewrite v8 v8).bind fun v14 =>
      AT ((!v14))
       (j9 true)
       (AT ((!((p1.fKind == 4))))
        (j9 (decide (0 < (p1.fRewrite.length : Int))))
        (j9 false)))
      (AT ((!((p1.fKind == 4))))
       (j9 (decide (0 < (p1.fRewrite.length : Int))))
       (j9 false)))))
  fun j3 =>
  (Dp N p1.fFrom ((p0.fVersions.length : Int))).bind fun v4 =>
  AT ((!v4))
   (j3 true)
   ((Dp N p1.fTo ((p0.fVersions.length : Int))).bind fun v6 =>
   j3 (!v6)))
def BI (N : Nat) (p0 : Ag) (j7 : Unit → Option Int) : Nat → Int → Option Int
 | 0, _ => none
 | n7 + 1, v7 =>
  AT ((decide (v7 < (p0.fVersions.length : Int))))
   ((A4 p0.fVersions v7).bind fun v10 =>
   A7 (fun (v11 : Bool) =>
    AT v11
     (some 7)
     (BI N p0 j7 n7 (wI .i64 (v7 + 1))))
   fun j11 =>
   AT ((decide (v10 < 1)))
    (j11 true)
    (AT ((decide (6 < v10)))
     (j11 true)
     ((A4 p0.fNow v7).bind fun v14 =>
     (Dp N v14 v10).bind fun v15 =>
     AT ((!v15))
      (j11 true)
      ((A4 p0.fTarget v7).bind fun v17 =>
      (Dp N v17 v10).bind fun v18 =>
      j11 (!v18)))))
   (j7 ())
def BC (N : Nat) (p0 : Ag) (j20 : Unit → Option Int) : Nat → Int → Option Int
 | 0, _ => none
 | n20 + 1, v20 =>
  AT ((decide (v20 < (p0.fTables.length : Int))))
   ((A4 p0.fTables v20).bind fun v23 =>
   (Ff N p0 v23).bind fun v24 =>
   AT ((v24 != 0))
    (some v24)
    (BC N p0 j20 n20 (wI .i64 (v20 + 1))))
   (j20 ())
def CY (N : Nat) (p0 : Ag) : Option Int :=
 A7 (fun (v1 : Bool) =>
  AT v1
   (some 3)
   (A7 (fun (v4 : Bool) =>
    AT v4
     (some 6)
     (BI N p0 (fun (_ : Unit) =>
      BC N p0 (fun (_ : Unit) =>
       some 0) N 0) N 0))
   fun j4 =>
   AT (((p0.fNow.length : Int) != (p0.fVersions.length : Int)))
    (j4 true)
    (j4 ((p0.fTarget.length : Int) != (p0.fVersions.length : Int)))))
 fun j1 =>
 AT ((decide (6 < (p0.fVersions.length : Int))))
  (j1 true)
  (j1 (decide (12 < (p0.fTables.length : Int))))
def BA (_ : Nat) (p0 : List Int) : Option ((List Int)) :=
 (DB ((([] : List Int)).length + p0.length ≤ D2)).bind fun _ =>
 some ((([] : List Int)) ++ p0)
def FQ (_ : Nat) (p0 : Int) (p1 : Int) : Option (Int × Int) :=
 some ((wI .u32 ((Dx .u64 ((wI .u64 ((wI .u64 p0) * (wI .u64 p1)))) 32))), (wI .u32 ((wI .u64 ((wI .u64 p0) * (wI .u64 p1))))))
def FT (_ : Nat) (p0 : Int) (p1 : Int) : Option (Int × Int) :=
 some ((wI .u64 ((wI .u64 ((wI .u64 ((Dx .u64 p0 32) * (Dx .u64 p1 32))) + (Dx .u64 ((wI .u64 ((wI .u64 ((Dx .u64 p0 32) * (EC .u64 p1 4294967295))) + (Dx .u64 ((wI .u64 ((EC .u64 p0 4294967295) * (EC .u64 p1 4294967295)))) 32)))) 32))) + (Dx .u64 ((wI .u64 ((EC .u64 ((wI .u64 ((wI .u64 ((Dx .u64 p0 32) * (EC .u64 p1 4294967295))) + (Dx .u64 ((wI .u64 ((EC .u64 p0 4294967295) * (EC .u64 p1 4294967295)))) 32)))) 4294967295) + (wI .u64 ((EC .u64 p0 4294967295) * (Dx .u64 p1 32)))))) 32))), (wI .u64 (p0 * p1)))
def GB (N : Nat) (p0 : Int) (p1 : Int) : Option (Int × Int) :=
 AT false
  ((FQ N ((wI .u32 p0)) ((wI .u32 p1))).bind fun v2 =>
  some ((wI .u64 v2.1), (wI .u64 v2.2)))
  ((FT N p0 p1).bind fun v3 =>
  some (v3.1, v3.2))
def De (N : Nat) (j9 : ((List Int)) → Option ((List Int))) : Nat → ((List Int) × Int) → Option ((List Int))
 | 0, _ => none
 | n9 + 1, v9 =>
  AT ((decide (v9.2 < (v9.1.length : Int))))
   ((DB ((0 : Int) ≤ v9.2 ∧ (v9.2).toNat ≤ v9.1.length ∧ v9.1.length ≤ v9.1.length)).bind fun _ =>
   (DB ((0 : Int) ≤ v9.2 ∧ 0 ≤ (v9.2).toNat ∧ (v9.2).toNat ≤ v9.1.length)).bind fun _ =>
   De N j9 n9 (Hb v9.1 ((v9.2).toNat) ((((v9.1.drop 0).take ((v9.2).toNat))).take (Nat.min (((v9.1.drop 0).take ((v9.2).toNat))).length ((v9.1.length - (v9.2).toNat)))), (wI .i64 (v9.2 + (((Nat.min (((v9.1.drop 0).take ((v9.2).toNat))).length ((v9.1.length - (v9.2).toNat))) : Nat) : Int)))))
   (j9 v9.1)
def DD (N : Nat) (p0 : List Int) (p1 : Int) : Option ((List Int)) :=
 A7 (fun (_ : Unit) =>
  (GB N ((wI .u64 ((p0.length : Int)))) ((wI .u64 p1))).bind fun v3 =>
  A7 (fun (_ : Unit) =>
   (DB ((0 : Int) ≤ (wI .i64 v3.2) ∧ (wI .i64 v3.2) ≤ (wI .i64 v3.2) ∧ (wI .i64 v3.2) ≤ (D2 : Int))).bind fun _ =>
   De N (fun (v10 : (List Int)) =>
    some v10) N (Hb (List.replicate ((wI .i64 v3.2)).toNat ((0 : Int))) 0 (p0.take (Nat.min p0.length ((List.replicate ((wI .i64 v3.2)).toNat ((0 : Int))).length))), (((Nat.min p0.length ((List.replicate ((wI .i64 v3.2)).toNat ((0 : Int))).length)) : Nat) : Int)))
  fun j4 =>
  A7 (fun (v5 : Bool) =>
   AT v5
    (none)
    (j4 ()))
  fun j5 =>
  AT ((decide (0 < v3.1)))
   (j5 true)
   (j5 (decide (9223372036854775807 < v3.2))))
 fun j1 =>
 AT ((decide (p1 < 0)))
  (none)
  (j1 ())
def Eo (_ : Nat) (p0 : AO) : Option Bool :=
 A7 (fun (v1 : Bool) =>
  some v1)
 fun j1 =>
 AT ((p0.fKind == 3))
  (j1 true)
  (j1 (p0.fKind == 4))
def Dn (N : Nat) (p0 : Ag) (j6 : ((List Int)) → Option (Ae × Int)) : Nat → ((List Int) × Int) → Option (Ae × Int)
 | 0, _ => none
 | n6 + 1, v6 =>
  AT ((decide (v6.2 < (p0.fTables.length : Int))))
   (A7 (fun (v9 : (List Int)) =>
    Dn N p0 j6 n6 (v9, (wI .i64 (v6.2 + 1))))
   fun j9 =>
   (A4 p0.fTables v6.2).bind fun v10 =>
   (Eo N v10).bind fun v11 =>
   AT v11
    ((A4 p0.fNow v10.fFrom).bind fun v13 =>
    (DB (0 ≤ v13)).bind fun _ =>
    (A4 v6.1 v6.2).bind fun _ =>
    j9 (v6.1.set ((v6.2).toNat) ((B3 .u8 1 v13))))
    (j9 v6.1))
   (j6 v6.1)
def Fi (N : Nat) (p0 : Ag) : Option (Ae × Int) :=
 (CY N p0).bind fun v1 =>
 AT ((v1 != 0))
  (some ((Ae.mk (([] : List Int)) (([] : List Int)) (([] : List Int))), v1))
  ((BA N p0.fNow).bind fun v3 =>
  (DD N (([(-1)] : List Int)) ((p0.fNow.length : Int))).bind fun v4 =>
  (DB ((0 : Int) ≤ (p0.fTables.length : Int) ∧ (p0.fTables.length : Int) ≤ (p0.fTables.length : Int) ∧ (p0.fTables.length : Int) ≤ (D2 : Int))).bind fun _ =>
  Dn N p0 (fun (v7 : (List Int)) =>
   some ((Ae.mk v3 v4 v7), 0)) N (List.replicate ((p0.fTables.length : Int)).toNat ((0 : Int)), 0))
def D6 (_ : Nat) (p0 : Ae) (p1 : Int) : Option Int :=
 (A4 p0.fBase p1).bind fun v1 =>
 (DB (0 ≤ v1)).bind fun _ =>
 A7 (fun (v3 : Int) =>
  some v3)
 fun j3 =>
 (A4 p0.fNext p1).bind fun v4 =>
 AT ((decide (0 ≤ v4)))
  ((A4 p0.fNext p1).bind fun v6 =>
  (DB (0 ≤ v6)).bind fun _ =>
  j3 (Ls .u8 ((B3 .u8 1 v1)) ((B3 .u8 1 v6))))
  (j3 (B3 .u8 1 v1))
def Do (N : Nat) (p0 : Ag) (p1 : Ae) (j7 : Unit → Option Int) : Nat → Int → Option Int
 | 0, _ => none
 | n7 + 1, v7 =>
  AT ((decide (v7 < (p0.fVersions.length : Int))))
   ((A4 p0.fVersions v7).bind fun v10 =>
   A7 (fun (v11 : Bool) =>
    AT v11
     (some 7)
     ((A4 p1.fBase v7).bind fun v20 =>
     (A4 p1.fNext v7).bind fun v21 =>
     AT ((v20 == v21))
      (some 1)
      (Do N p0 p1 j7 n7 (wI .i64 (v7 + 1)))))
   fun j11 =>
   (A4 p1.fBase v7).bind fun v12 =>
   AT ((decide (v12 < 0)))
    (j11 true)
    ((A4 p1.fBase v7).bind fun v14 =>
    AT ((decide (v10 ≤ v14)))
     (j11 true)
     ((A4 p1.fNext v7).bind fun v16 =>
     AT ((decide (v16 < (-1))))
      (j11 true)
      ((A4 p1.fNext v7).bind fun v18 =>
      j11 (decide (v10 ≤ v18))))))
   (j7 ())
def Dd (N : Nat) (p0 : Ag) (p1 : Ae) (j23 : Unit → Option Int) : Nat → Int → Option Int
 | 0, _ => none
 | n23 + 1, v23 =>
  AT ((decide (v23 < (p0.fTables.length : Int))))
   ((A4 p0.fTables v23).bind fun v26 =>
   A7 (fun (v27 : Int × Int) =>
    A7 (fun (v33 : Bool) =>
     AT v33
      (some 1)
      (Dd N p0 p1 j23 n23 (wI .i64 (v23 + 1))))
    fun j33 =>
    (A4 p1.fHeld v23).bind fun v34 =>
    AT (((CJ .u8 v27.1 v34) != 0))
     (j33 true)
     ((A4 p1.fHeld v23).bind fun v36 =>
     j33 ((CJ .u8 v36 v27.2) != 0)))
   fun j27 =>
   (Eo N v26).bind fun v28 =>
   AT v28
    ((D6 N p1 v26.fFrom).bind fun v30 =>
    (A4 p0.fVersions v26.fFrom).bind fun v31 =>
    (DB (0 ≤ v31)).bind fun _ =>
    j27 (v30, (wI .u8 ((B3 .u8 1 v31) - 1))))
    (j27 (0, 0)))
   (j23 ())
def Ek (N : Nat) (p0 : Ag) (p1 : Ae) : Option Int :=
 (CY N p0).bind fun v1 =>
 AT ((v1 != 0))
  (some v1)
  (A7 (fun (v3 : Bool) =>
   AT v3
    (some 6)
    (Do N p0 p1 (fun (_ : Unit) =>
     Dd N p0 p1 (fun (_ : Unit) =>
      some 0) N 0) N 0))
  fun j3 =>
  AT (((p1.fBase.length : Int) != (p0.fVersions.length : Int)))
   (j3 true)
   (AT (((p1.fNext.length : Int) != (p0.fVersions.length : Int)))
    (j3 true)
    (j3 ((p1.fHeld.length : Int) != (p0.fTables.length : Int)))))
def BF (_ : Nat) (p0 : List Int) : Option ((List Int)) :=
 (DB ((([] : List Int)).length + p0.length ≤ D2)).bind fun _ =>
 some ((([] : List Int)) ++ p0)
def Da (N : Nat) (p1 : Ae) (j3 : ((List Int)) → Option ((List Ae) × Int)) : Nat → ((List Int) × Int) → Option ((List Ae) × Int)
 | 0, _ => none
 | n3 + 1, v3 =>
  AT ((decide (v3.2 < (p1.fNext.length : Int))))
   (A7 (fun (v6 : (List Int)) =>
    Da N p1 j3 n3 (v6, (wI .i64 (v3.2 + 1))))
   fun j6 =>
   (A4 p1.fNext v3.2).bind fun v7 =>
   AT ((decide (0 ≤ v7)))
    ((DB (v3.1.length + (([v3.2] : List Int)).length ≤ D2)).bind fun _ =>
    j6 (v3.1 ++ (([v3.2] : List Int))))
    (j6 v3.1))
   (j3 v3.1)
def Cy (N : Nat) (v4 : (List Int)) (v11 : (List Ae) × Int) (j17 : ((List Int)) → Option ((List Ae) × Int)) : Nat → ((List Int) × Int) → Option ((List Ae) × Int)
 | 0, _ => none
 | n17 + 1, v17 =>
  AT ((decide (v17.2 < (v4.length : Int))))
   (A7 (fun (v20 : (List Int)) =>
    Cy N v4 v11 j17 n17 (v20, (wI .i64 (v17.2 + 1))))
   fun j20 =>
   (A4 v4 v17.2).bind fun v21 =>
   (DB (0 ≤ v17.2)).bind fun _ =>
   AT (((EC .i64 ((Dx .i64 v11.2 v17.2)) 1) == 1))
    ((A4 v17.1 v21).bind fun _ =>
    j20 (v17.1.set ((v21).toNat) ((-1))))
    (j20 v17.1))
   (j17 v17.1)
def Cw (N : Nat) (p1 : Ae) (v4 : (List Int)) (j11 : ((List Ae)) → Option ((List Ae) × Int)) : Nat → ((List Ae) × Int) → Option ((List Ae) × Int)
 | 0, _ => none
 | n11 + 1, v11 =>
  AT ((decide (v11.2 < (B3 .i64 1 ((v4.length : Int))))))
   ((BA N p1.fBase).bind fun v14 =>
   (BA N p1.fNext).bind fun v15 =>
   (BF N p1.fHeld).bind fun v16 =>
   Cy N v4 v11 (fun (v18 : (List Int)) =>
    (DB (v11.1.length + (([(Ae.mk v14 v18 v16)] : List Ae)).length ≤ D2)).bind fun _ =>
    Cw N p1 v4 j11 n11 (v11.1 ++ (([(Ae.mk v14 v18 v16)] : List Ae)), (wI .i64 (v11.2 + 1)))) N (v15, 0))
   (j11 v11.1)
def ET (N : Nat) (p0 : Ag) (p1 : Ae) : Option ((List Ae) × Int) :=
 (Ek N p0 p1).bind fun v1 =>
 AT ((v1 != 0))
  (some (([] : List Ae), v1))
  (Da N p1 (fun (v4 : (List Int)) =>
   (DB (0 ≤ (v4.length : Int))).bind fun _ =>
   Cw N p1 v4 (fun (v12 : (List Ae)) =>
    some (v12, 0)) N (([] : List Ae), 0)) N (([] : List Int), 0))
def Ej (N : Nat) (v1 : (List AW) × Int) (v4 : AO) (v6 : Int) (v11 : (List AW) × Int) (v17 : List Bool) (j18 : ((List AW) × Bool) → Option ((List AW))) : Nat → ((List AW) × Bool × Int) → Option ((List AW))
 | 0, _ => none
 | n18 + 1, v18 =>
  AT ((decide (v18.2.2 < (v17.length : Int))))
   (A7 (fun (v21 : (List AW) × Bool) =>
    Ej N v1 v4 v6 v11 v17 j18 n18 (v21.1, v21.2, (wI .i64 (v18.2.2 + 1))))
   fun j21 =>
   (A4 v17 v18.2.2).bind fun v22 =>
   (DB (0 ≤ v18.2.2)).bind fun _ =>
   AT (((EC .u8 ((Dx .u8 v6 v18.2.2)) 1) == 0))
    (j21 (v18.1, v18.2.1))
    (A7 (fun (v25 : Bool) =>
     A7 (fun (v27 : Bool) =>
      AT v27
       ((DB (v18.1.length + (([(AW.mk v1.2 v11.2 v18.2.2)] : List AW)).length ≤ D2)).bind fun _ =>
       j21 (v18.1 ++ (([(AW.mk v1.2 v11.2 v18.2.2)] : List AW)), v25))
       (j21 (v18.1, v25)))
     fun j27 =>
     AT ((!v22))
      (j27 (!v4.fAware))
      (j27 false))
    fun j25 =>
    AT v18.2.1
     (j25 true)
     (j25 v22)))
   (j18 (v18.1, v18.2.1))
def Ei (N : Nat) (v1 : (List AW) × Int) (v4 : AO) (v6 : Int) (v7 : Int) (j11 : ((List AW)) → Option ((List AW))) : Nat → ((List AW) × Int) → Option ((List AW))
 | 0, _ => none
 | n11 + 1, v11 =>
  AT ((decide (v11.2 < (v4.fOK.length : Int))))
   (A7 (fun (v14 : (List AW)) =>
    Ei N v1 v4 v6 v7 j11 n11 (v14, (wI .i64 (v11.2 + 1))))
   fun j14 =>
   (DB (0 ≤ v11.2)).bind fun _ =>
   AT (((EC .u8 ((Dx .u8 v7 v11.2)) 1) == 0))
    (j14 v11.1)
    ((A4 v4.fOK v11.2).bind fun v17 =>
    Ej N v1 v4 v6 v11 v17 (fun (v19 : (List AW) × Bool) =>
     A7 (fun (v31 : Bool) =>
      AT v31
       ((DB (v19.1.length + (([(AW.mk v1.2 v11.2 ((-1)))] : List AW)).length ≤ D2)).bind fun _ =>
       j14 (v19.1 ++ (([(AW.mk v1.2 v11.2 ((-1)))] : List AW))))
       (j14 v19.1))
     fun j31 =>
     AT v4.fAware
      (j31 (!v19.2))
      (j31 false)) N (v11.1, false, 0)))
   (j11 v11.1)
def Er (N : Nat) (p0 : Ag) (p1 : Ae) (j1 : ((List AW)) → Option ((List AW))) : Nat → ((List AW) × Int) → Option ((List AW))
 | 0, _ => none
 | n1 + 1, v1 =>
  AT ((decide (v1.2 < (p0.fTables.length : Int))))
   ((A4 p0.fTables v1.2).bind fun v4 =>
   (D6 N p1 v4.fFrom).bind fun v5 =>
   (D6 N p1 v4.fTo).bind fun v6 =>
   A7 (fun (v7 : Int) =>
    Ei N v1 v4 v6 v7 (fun (v12 : (List AW)) =>
     Er N p0 p1 j1 n1 (v12, (wI .i64 (v1.2 + 1)))) N (v1.1, 0))
   fun j7 =>
   (Eo N v4).bind fun v8 =>
   AT v8
    ((A4 p1.fHeld v1.2).bind fun v10 =>
    j7 v10)
    (j7 v5))
   (j1 v1.1)
def Gt (N : Nat) (p0 : Ag) (p1 : Ae) : Option ((List AW)) :=
 Er N p0 p1 (fun (v2 : (List AW)) =>
  some v2) N (([] : List AW), 0)
def FE (N : Nat) (p0 : Ag) (v1 : (List Ae) × Int) (j3 : Unit → Option (Ae × AW × Int)) : Nat → Int → Option (Ae × AW × Int)
 | 0, _ => none
 | n3 + 1, v3 =>
  AT ((decide (v3 < (v1.1.length : Int))))
   ((A4 v1.1 v3).bind fun v6 =>
   (Gt N p0 v6).bind fun v7 =>
   AT ((decide (0 < (v7.length : Int))))
    ((A4 v7 0).bind fun v9 =>
    some (v6, v9, 0))
    (FE N p0 v1 j3 n3 (wI .i64 (v3 + 1))))
   (j3 ())
def Iw (N : Nat) (p0 : Ag) (p1 : Ae) : Option (Ae × AW × Int) :=
 (ET N p0 p1).bind fun v1 =>
 AT ((v1.2 != 0))
  (some ((Ae.mk (([] : List Int)) (([] : List Int)) (([] : List Int))), (AW.mk 0 0 0), v1.2))
  (FE N p0 v1 (fun (_ : Unit) =>
   some ((Ae.mk (([] : List Int)) (([] : List Int)) (([] : List Int))), (AW.mk 0 0 0), 15)) N 0)
def FB (N : Nat) (p0 : Ag) (p1 : Ae) : Option (Bool × Int) :=
 (Iw N p0 p1).bind fun v1 =>
 AT ((v1.2.2 == 0))
  (some (false, 0))
  (AT ((v1.2.2 == 15))
   (some (true, 0))
   (some (false, v1.2.2)))
def F5 (N : Nat) (p0 : Ag) : Option (Ae × Bool × Int) :=
 (Fi N p0).bind fun v1 =>
 AT ((v1.2 != 0))
  (some ((Ae.mk (([] : List Int)) (([] : List Int)) (([] : List Int))), false, v1.2))
  ((FB N p0 v1.1).bind fun v3 =>
  some (v1.1, v3.1, v3.2))
def FI (N : Nat) (p0 : Ae) (j1 : ((List Int)) → Option ByteArray) : Nat → ((List Int) × Int) → Option ByteArray
 | 0, _ => none
 | n1 + 1, v1 =>
  AT ((decide (v1.2 < (p0.fBase.length : Int))))
   ((A4 p0.fBase v1.2).bind fun v4 =>
   (A4 p0.fNext v1.2).bind fun v5 =>
   (DB (v1.1.length + (([(wI .u8 v4), (wI .u8 ((wI .i64 (v5 + 1))))] : List Int)).length ≤ D2)).bind fun _ =>
   FI N p0 j1 n1 (v1.1 ++ (([(wI .u8 v4), (wI .u8 ((wI .i64 (v5 + 1))))] : List Int)), (wI .i64 (v1.2 + 1))))
   (j1 v1.1)
def FL (N : Nat) (p0 : Ae) (j7 : ((List Int)) → Option ByteArray) : Nat → ((List Int) × Int) → Option ByteArray
 | 0, _ => none
 | n7 + 1, v7 =>
  AT ((decide (v7.2 < (p0.fHeld.length : Int))))
   ((A4 p0.fHeld v7.2).bind fun v10 =>
   (DB (v7.1.length + (([v10] : List Int)).length ≤ D2)).bind fun _ =>
   FL N p0 j7 n7 (v7.1 ++ (([v10] : List Int)), (wI .i64 (v7.2 + 1))))
   (j7 v7.1)
def Gf (N : Nat) (p0 : Ae) : Option ByteArray :=
 FI N p0 (fun (v2 : (List Int)) =>
  FL N p0 (fun (v8 : (List Int)) =>
   some ((HD v8))) N (v2, 0)) N (([] : List Int), 0)
def F8 (N : Nat) (v1 : (List Aj) × Int) (v4 : Int) (j5 : ((List Aj)) → Option ((List Aj))) : Nat → ((List Aj) × Int) → Option ((List Aj))
 | 0, _ => none
 | n5 + 1, v5 =>
  AT ((decide (v5.2 < v4)))
   ((DB (v5.1.length + (([(Aj.mk 1 v1.2 v5.2)] : List Aj)).length ≤ D2)).bind fun _ =>
   F8 N v1 v4 j5 n5 (v5.1 ++ (([(Aj.mk 1 v1.2 v5.2)] : List Aj)), (wI .i64 (v5.2 + 1))))
   (j5 v5.1)
def Gk (N : Nat) (p0 : Ag) (j1 : ((List Aj)) → Option ((List Aj))) : Nat → ((List Aj) × Int) → Option ((List Aj))
 | 0, _ => none
 | n1 + 1, v1 =>
  AT ((decide (v1.2 < (p0.fVersions.length : Int))))
   ((A4 p0.fVersions v1.2).bind fun v4 =>
   F8 N v1 v4 (fun (v6 : (List Aj)) =>
    Gk N p0 j1 n1 (v6, (wI .i64 (v1.2 + 1)))) N (v1.1, 0))
   (j1 v1.1)
def F1 (N : Nat) (p0 : Ag) (j9 : ((List Aj)) → Option ((List Aj))) : Nat → ((List Aj) × Int) → Option ((List Aj))
 | 0, _ => none
 | n9 + 1, v9 =>
  AT ((decide (v9.2 < (p0.fVersions.length : Int))))
   ((DB (v9.1.length + (([(Aj.mk 2 v9.2 0)] : List Aj)).length ≤ D2)).bind fun _ =>
   F1 N p0 j9 n9 (v9.1 ++ (([(Aj.mk 2 v9.2 0)] : List Aj)), (wI .i64 (v9.2 + 1))))
   (j9 v9.1)
def FM (N : Nat) (p0 : Ag) (j13 : ((List Aj)) → Option ((List Aj))) : Nat → ((List Aj) × Int) → Option ((List Aj))
 | 0, _ => none
 | n13 + 1, v13 =>
  AT ((decide (v13.2 < (p0.fTables.length : Int))))
   ((DB (v13.1.length + (([(Aj.mk 3 v13.2 0)] : List Aj)).length ≤ D2)).bind fun _ =>
   FM N p0 j13 n13 (v13.1 ++ (([(Aj.mk 3 v13.2 0)] : List Aj)), (wI .i64 (v13.2 + 1))))
   (j13 v13.1)
def IU (N : Nat) (p0 : Ag) : Option ((List Aj)) :=
 Gk N p0 (fun (v2 : (List Aj)) =>
  F1 N p0 (fun (v10 : (List Aj)) =>
   FM N p0 (fun (v14 : (List Aj)) =>
    some v14) N (v10, 0)) N (v2, 0)) N (([] : List Aj), 0)
def Et (N : Nat) (p0 : Ae) : Option Ae :=
 (BA N p0.fBase).bind fun v1 =>
 (BA N p0.fNext).bind fun v2 =>
 (BF N p0.fHeld).bind fun v3 =>
 some ((Ae.mk v1 v2 v3))
def Ew (_ : Nat) (p0 : AO) : Option Bool :=
 A7 (fun (v1 : Bool) =>
  some v1)
 fun j1 =>
 AT ((p0.fKind == 3))
  (j1 true)
  (j1 (p0.fKind == 4))
def C7 (N : Nat) (p0 : Ag) (p2 : Aj) (j7 : ((List Int)) → Option (Bool × (List Int) × (List Int))) : Nat → ((List Int) × Int) → Option (Bool × (List Int) × (List Int))
 | 0, _ => none
 | n7 + 1, v7 =>
  AT ((decide (v7.2 < (p0.fTables.length : Int))))
   (A7 (fun (v10 : (List Int)) =>
    C7 N p0 p2 j7 n7 (v10, (wI .i64 (v7.2 + 1))))
   fun j10 =>
   (A4 p0.fTables v7.2).bind fun v11 =>
   A7 (fun (v12 : Bool) =>
    AT v12
     ((A4 v7.1 v7.2).bind fun v16 =>
     (DB (0 ≤ p2.fVersion)).bind fun _ =>
     (A4 v7.1 v7.2).bind fun _ =>
     j10 (v7.1.set ((v7.2).toNat) ((Ls .u8 v16 ((B3 .u8 1 p2.fVersion))))))
     (j10 v7.1))
   fun j12 =>
   AT ((v11.fFrom == p2.fIndex))
    ((Ew N v11).bind fun v14 =>
    j12 v14)
    (j12 false))
   (j7 v7.1)
def GF (N : Nat) (p0 : Ag) (p1 : Ae) (p2 : Aj) : Option (Bool × (List Int) × (List Int)) :=
 A7 (fun (v1 : Bool) =>
  AT v1
   (some (false, p1.fNext, p1.fHeld))
   ((A4 p1.fNext p2.fIndex).bind fun _ =>
   C7 N p0 p2 (fun (v8 : (List Int)) =>
    some (true, p1.fNext.set ((p2.fIndex).toNat) p2.fVersion, v8)) N (p1.fHeld, 0)))
 fun j1 =>
 (A4 p1.fNext p2.fIndex).bind fun v2 =>
 AT ((decide (0 ≤ v2)))
  (j1 true)
  ((A4 p1.fBase p2.fIndex).bind fun v4 =>
  j1 (v4 == p2.fVersion))
def EM (_ : Nat) (p0 : Ae) (p1 : Int) : Option Int :=
 (A4 p0.fBase p1).bind fun v1 =>
 (DB (0 ≤ v1)).bind fun _ =>
 A7 (fun (v3 : Int) =>
  some v3)
 fun j3 =>
 (A4 p0.fNext p1).bind fun v4 =>
 AT ((decide (0 ≤ v4)))
  ((A4 p0.fNext p1).bind fun v6 =>
  (DB (0 ≤ v6)).bind fun _ =>
  j3 (Ls .u8 ((B3 .u8 1 v1)) ((B3 .u8 1 v6))))
  (j3 (B3 .u8 1 v1))
def Cu (_ : Nat) (p0 : Int) : Option Int :=
 (QP ((⟨⟨(List.append (List.append [8, 0, 1, 0, 2, 0, 1, 0, 3, 0, 1, 0, 2, 0, 1, 0, 4, 0, 1, 0, 2, 0, 1, 0, 3, 0, 1, 0, 2, 0, 1, 0, 5, 0, 1, 0, 2, 0, 1, 0, 3, 0, 1, 0, 2, 0, 1, 0, 4, 0, 1, 0, 2, 0, 1, 0, 3, 0, 1, 0, 2, 0, 1, 0] [6, 0, 1, 0, 2, 0, 1, 0, 3, 0, 1, 0, 2, 0, 1, 0, 4, 0, 1, 0, 2, 0, 1, 0, 3, 0, 1, 0, 2, 0, 1, 0, 5, 0, 1, 0, 2, 0, 1, 0, 3, 0, 1, 0, 2, 0, 1, 0, 4, 0, 1, 0, 2, 0, 1, 0, 3, 0, 1, 0, 2, 0, 1, 0]) (List.append [7, 0, 1, 0, 2, 0, 1, 0, 3, 0, 1, 0, 2, 0, 1, 0, 4, 0, 1, 0, 2, 0, 1, 0, 3, 0, 1, 0, 2, 0, 1, 0, 5, 0, 1, 0, 2, 0, 1, 0, 3, 0, 1, 0, 2, 0, 1, 0, 4, 0, 1, 0, 2, 0, 1, 0, 3, 0, 1, 0, 2, 0, 1, 0] [6, 0, 1, 0, 2, 0, 1, 0, 3, 0, 1, 0, 2, 0, 1, 0, 4, 0, 1, 0, 2, 0, 1, 0, 3, 0, 1, 0, 2, 0, 1, 0, 5, 0, 1, 0, 2, 0, 1, 0, 3, 0, 1, 0, 2, 0, 1, 0, 4, 0, 1, 0, 2, 0, 1, 0, 3, 0, 1, 0, 2, 0, 1, 0]))⟩⟩ : ByteArray)) p0).bind fun v1 =>
 some ((wI .i64 v1))
def CX (N : Nat) (p0 : AO) (p2 : Int) (j1 : Unit → Option Bool) : Nat → Int → Option Bool
 | 0, _ => none
 | n1 + 1, v1 =>
  AT ((v1 != 0))
   ((Cu N v1).bind fun v4 =>
   (A4 p0.fRewrite v4).bind fun v5 =>
   (A4 v5 p2).bind fun v6 =>
   AT ((!v6))
    (some false)
    (CX N p0 p2 j1 n1 (EC .u8 v1 ((wI .u8 (v1 - 1))))))
   (j1 ())
def EG (N : Nat) (p0 : AO) (p1 : Int) (p2 : Int) : Option Bool :=
 CX N p0 p2 (fun (_ : Unit) =>
  some true) N p1
def Fv (N : Nat) (p0 : Ag) (p1 : Ae) (p2 : Int) : Option (Bool × (List Int)) :=
 (A4 p0.fTables p2).bind fun v1 =>
 (Ew N v1).bind fun v2 =>
 AT ((!v2))
  (some (false, p1.fHeld))
  ((EM N p1 v1.fFrom).bind fun v4 =>
  (A4 p1.fHeld p2).bind fun v5 =>
  A7 (fun (v6 : Bool) =>
   AT v6
    (some (false, p1.fHeld))
    ((A4 p1.fHeld p2).bind fun _ =>
    some (true, p1.fHeld.set ((p2).toNat) v4)))
  fun j6 =>
  (A4 p1.fHeld p2).bind fun v7 =>
  AT ((v7 == v4))
   (j6 true)
   (AT ((v1.fKind == 4))
    ((A4 p1.fBase v1.fFrom).bind fun v10 =>
    (EG N v1 ((CJ .u8 v5 v4)) v10).bind fun v11 =>
    j6 (!v11))
    (j6 false)))
def ES (N : Nat) (p0 : Ag) (p1 : Ae) (p2 : Aj) : Option (Ae × Bool) :=
 (Et N p1).bind fun v1 =>
 AT ((p2.fKind == 1))
  ((GF N p0 v1 p2).bind fun v3 =>
  some ((Ae.mk v1.fBase v3.2.1 v3.2.2), v3.1))
  (AT ((p2.fKind == 3))
   ((Fv N p0 v1 p2.fIndex).bind fun v5 =>
   some ((Ae.mk v1.fBase v1.fNext v5.2), v5.1))
   ((A4 v1.fNext p2.fIndex).bind fun v6 =>
   AT ((decide (v6 < 0)))
    (some (v1, false))
    ((A4 v1.fNext p2.fIndex).bind fun _ =>
    A7 (fun (v9 : (List Int)) =>
     some ((Ae.mk v9 (v1.fNext.set ((p2.fIndex).toNat) ((-1))) v1.fHeld), true))
    fun j9 =>
    AT ((p2.fKind == 2))
     ((A4 v1.fBase p2.fIndex).bind fun _ =>
     j9 (v1.fBase.set ((p2.fIndex).toNat) v6))
     (j9 v1.fBase))))
def Eh (N : Nat) (p0 : Aj) (p1 : List Int) (p2 : List Int) (p3 : List Int) (p4 : List AO) (p5 : List Int) (p6 : List Int) (p7 : List Int) : Option Bool :=
 (ES N ((Ag.mk p1 p2 p3 p4)) ((Ae.mk p5 p6 p7)) p0).bind fun v1 =>
 some ((!v1.2))
def BR (N : Nat) (p0 : List Aj) (p1 : Aj → Option Bool) (j1 : Unit → Option Int) : Nat → Int → Option Int
 | 0, _ => none
 | n1 + 1, v1 =>
  AT ((decide (v1 < (p0.length : Int))))
   ((A4 p0 v1).bind fun v4 =>
   (p1 v4).bind fun v5 =>
   AT v5
    (some v1)
    (BR N p0 p1 j1 n1 (wI .i64 (v1 + 1))))
   (j1 ())
def CN (N : Nat) (p0 : List Aj) (p1 : Aj → Option Bool) : Option Int :=
 BR N p0 p1 (fun (_ : Unit) =>
  some ((-1))) N 0
def BO (N : Nat) (p1 : Aj → Option Bool) (j3 : ((List Aj) × Int) → Option (Nat × (List Aj))) : Nat → ((List Aj) × Int × Int) → Option (Nat × (List Aj))
 | 0, _ => none
 | n3 + 1, v3 =>
  AT ((decide (v3.2.2 < (v3.1.length : Int))))
   (A7 (fun (v6 : (List Aj) × Int) =>
    BO N p1 j3 n3 (v6.1, v6.2, (wI .i64 (v3.2.2 + 1))))
   fun j6 =>
   (A4 v3.1 v3.2.2).bind fun v7 =>
   (p1 v7).bind fun v8 =>
   AT ((!v8))
    ((A4 v3.1 v3.2.1).bind fun _ =>
    j6 (v3.1.set ((v3.2.1).toNat) v7, (wI .i64 (v3.2.1 + 1))))
    (j6 (v3.1, v3.2.1)))
   (j3 (v3.1, v3.2.1))
def CB (N : Nat) (p0 : List Aj) (p1 : Aj → Option Bool) : Option (Nat × (List Aj)) :=
 (CN N p0 p1).bind fun v1 =>
 AT ((v1 == (-1)))
  (some (p0.length, p0))
  (BO N p1 (fun (v4 : (List Aj) × Int) =>
   (DB ((0 : Int) ≤ v4.2 ∧ (v4.2).toNat ≤ v4.1.length ∧ v4.1.length ≤ v4.1.length)).bind fun _ =>
   (DB ((0 : Int) ≤ v4.2 ∧ 0 ≤ (v4.2).toNat ∧ (v4.2).toNat ≤ (Hb v4.1 ((v4.2).toNat) (List.replicate ((v4.1.length - (v4.2).toNat)) ((Aj.mk 0 0 0)))).length)).bind fun _ =>
   some ((v4.2).toNat, Hb v4.1 ((v4.2).toNat) (List.replicate ((v4.1.length - (v4.2).toNat)) ((Aj.mk 0 0 0))))) N (p0, v1, (wI .i64 (v1 + 1))))
def GW (N : Nat) (p0 : Ag) (p1 : Ae) : Option ((List Aj) × Int) :=
 (Ek N p0 p1).bind fun v1 =>
 AT ((v1 != 0))
  (some (([] : List Aj), v1))
  ((IU N p0).bind fun v3 =>
  (CB N v3 ((fun (x : Aj) => Eh N x p0.fVersions p0.fNow p0.fTarget p0.fTables p1.fBase p1.fNext p1.fHeld))).bind fun v4 =>
  (DB (v4.1 ≤ v4.2.length)).bind fun _ =>
  some (v4.2.take v4.1, 0))
def Ft (_ : Nat) (p0 : Aj) : Option Bool :=
 A7 (fun (v1 : Bool) =>
  AT v1
   (some false)
   (A7 (fun (v5 : Bool) =>
    some v5)
   fun j5 =>
   AT ((p0.fKind == 1))
    (j5 true)
    (j5 (p0.fVersion == 0))))
 fun j1 =>
 AT ((decide ((RG p0.fIndex p0.fVersion) < 0)))
  (j1 true)
  (AT ((decide (p0.fKind < 1)))
   (j1 true)
   (j1 (decide (4 < p0.fKind))))
def Fd (_ : Nat) (p0 : Ag) (p1 : Aj) : Option Bool :=
 AT ((p1.fKind == 3))
  (some ((decide (p1.fIndex < (p0.fTables.length : Int)))))
  (A7 (fun (v2 : Bool) =>
   some v2)
  fun j2 =>
  AT ((decide (p1.fIndex < (p0.fVersions.length : Int))))
   (AT ((p1.fKind != 1))
    (j2 true)
    ((A4 p0.fVersions p1.fIndex).bind fun v5 =>
    j2 (decide (p1.fVersion < v5))))
   (j2 false))
def ER (N : Nat) (p0 : Ag) (p1 : Ae) (p2 : Aj) : Option (Ae × Int) :=
 (Ft N p2).bind fun v1 =>
 AT ((!v1))
  (some ((Ae.mk (([] : List Int)) (([] : List Int)) (([] : List Int))), 1))
  ((Fd N p0 p2).bind fun v3 =>
  AT ((!v3))
   (some ((Ae.mk (([] : List Int)) (([] : List Int)) (([] : List Int))), 4))
   ((ES N p0 p1 p2).bind fun v5 =>
   AT ((!v5.2))
    (some ((Ae.mk (([] : List Int)) (([] : List Int)) (([] : List Int))), 11))
    (some (v5.1, 0))))
def HM (N : Nat) (p0 : Ag) (p1 : Ae) (p2 : Aj) : Option (Ae × Int) :=
 (Ek N p0 p1).bind fun v1 =>
 AT ((v1 != 0))
  (some ((Ae.mk (([] : List Int)) (([] : List Int)) (([] : List Int))), v1))
  ((ER N p0 p1 p2).bind fun v3 =>
  some (v3.1, v3.2))
def Fk (N : Nat) (p0 : Ag) (p1 : Ae) (v1 : (List Aj) × Int) (j2 : ((List Aj) × (List Ae)) → Option ((List Aj) × (List Ae))) : Nat → ((List Aj) × (List Ae) × Int) → Option ((List Aj) × (List Ae))
 | 0, _ => none
 | n2 + 1, v2 =>
  AT ((decide (v2.2.2 < (v1.1.length : Int))))
   (A7 (fun (v5 : (List Aj) × (List Ae)) =>
    Fk N p0 p1 v1 j2 n2 (v5.1, v5.2, (wI .i64 (v2.2.2 + 1))))
   fun j5 =>
   (A4 v1.1 v2.2.2).bind fun v6 =>
   (HM N p0 p1 v6).bind fun v7 =>
   AT ((v7.2 != 0))
    (j5 (v2.1, v2.2.1))
    ((FB N p0 v7.1).bind fun v9 =>
    AT v9.1
     ((DB (v2.1.length + (([v6] : List Aj)).length ≤ D2)).bind fun _ =>
     (DB (v2.2.1.length + (([v7.1] : List Ae)).length ≤ D2)).bind fun _ =>
     j5 (v2.1 ++ (([v6] : List Aj)), v2.2.1 ++ (([v7.1] : List Ae))))
     (j5 (v2.1, v2.2.1))))
   (j2 (v2.1, v2.2.1))
def GG (N : Nat) (p0 : Ag) (p1 : Ae) : Option ((List Aj) × (List Ae)) :=
 (GW N p0 p1).bind fun v1 =>
 Fk N p0 p1 v1 (fun (v3 : (List Aj) × (List Ae)) =>
  some (v3.1, v3.2)) N (([] : List Aj), ([] : List Ae), 0)
def zFS (_ : Nat) (p0 : Int) : Option Int :=
 A7 (fun (v1 : Int × Int) =>
  A7 (fun (v3 : Int × Int) =>
   (QP ((⟨⟨(List.append (List.append [0, 1, 2, 2, 3, 3, 3, 3, 4, 4, 4, 4, 4, 4, 4, 4, 5, 5, 5, 5, 5, 5, 5, 5, 5, 5, 5, 5, 5, 5, 5, 5, 6, 6, 6, 6, 6, 6, 6, 6, 6, 6, 6, 6, 6, 6, 6, 6, 6, 6, 6, 6, 6, 6, 6, 6, 6, 6, 6, 6, 6, 6, 6, 6] [7, 7, 7, 7, 7, 7, 7, 7, 7, 7, 7, 7, 7, 7, 7, 7, 7, 7, 7, 7, 7, 7, 7, 7, 7, 7, 7, 7, 7, 7, 7, 7, 7, 7, 7, 7, 7, 7, 7, 7, 7, 7, 7, 7, 7, 7, 7, 7, 7, 7, 7, 7, 7, 7, 7, 7, 7, 7, 7, 7, 7, 7, 7, 7]) (List.append [8, 8, 8, 8, 8, 8, 8, 8, 8, 8, 8, 8, 8, 8, 8, 8, 8, 8, 8, 8, 8, 8, 8, 8, 8, 8, 8, 8, 8, 8, 8, 8, 8, 8, 8, 8, 8, 8, 8, 8, 8, 8, 8, 8, 8, 8, 8, 8, 8, 8, 8, 8, 8, 8, 8, 8, 8, 8, 8, 8, 8, 8, 8, 8] [8, 8, 8, 8, 8, 8, 8, 8, 8, 8, 8, 8, 8, 8, 8, 8, 8, 8, 8, 8, 8, 8, 8, 8, 8, 8, 8, 8, 8, 8, 8, 8, 8, 8, 8, 8, 8, 8, 8, 8, 8, 8, 8, 8, 8, 8, 8, 8, 8, 8, 8, 8, 8, 8, 8, 8, 8, 8, 8, 8, 8, 8, 8, 8]))⟩⟩ : ByteArray)) ((wI .u8 v3.1))).bind fun v5 =>
   some ((wI .i64 (v3.2 + (wI .i64 v5)))))
  fun j3 =>
  AT ((decide (256 ≤ v1.1)))
   (j3 ((Dx .u32 v1.1 8), (wI .i64 (v1.2 + 8))))
   (j3 (v1.1, v1.2)))
 fun j1 =>
 AT ((decide (65536 ≤ p0)))
  (j1 ((Dx .u32 p0 16), 16))
  (j1 (p0, 0))
def FN (_ : Nat) (p0 : Int) : Option Int :=
 A7 (fun (v1 : Int × Int) =>
  A7 (fun (v3 : Int × Int) =>
   A7 (fun (v5 : Int × Int) =>
    (QP ((⟨⟨(List.append (List.append [0, 1, 2, 2, 3, 3, 3, 3, 4, 4, 4, 4, 4, 4, 4, 4, 5, 5, 5, 5, 5, 5, 5, 5, 5, 5, 5, 5, 5, 5, 5, 5, 6, 6, 6, 6, 6, 6, 6, 6, 6, 6, 6, 6, 6, 6, 6, 6, 6, 6, 6, 6, 6, 6, 6, 6, 6, 6, 6, 6, 6, 6, 6, 6] [7, 7, 7, 7, 7, 7, 7, 7, 7, 7, 7, 7, 7, 7, 7, 7, 7, 7, 7, 7, 7, 7, 7, 7, 7, 7, 7, 7, 7, 7, 7, 7, 7, 7, 7, 7, 7, 7, 7, 7, 7, 7, 7, 7, 7, 7, 7, 7, 7, 7, 7, 7, 7, 7, 7, 7, 7, 7, 7, 7, 7, 7, 7, 7]) (List.append [8, 8, 8, 8, 8, 8, 8, 8, 8, 8, 8, 8, 8, 8, 8, 8, 8, 8, 8, 8, 8, 8, 8, 8, 8, 8, 8, 8, 8, 8, 8, 8, 8, 8, 8, 8, 8, 8, 8, 8, 8, 8, 8, 8, 8, 8, 8, 8, 8, 8, 8, 8, 8, 8, 8, 8, 8, 8, 8, 8, 8, 8, 8, 8] [8, 8, 8, 8, 8, 8, 8, 8, 8, 8, 8, 8, 8, 8, 8, 8, 8, 8, 8, 8, 8, 8, 8, 8, 8, 8, 8, 8, 8, 8, 8, 8, 8, 8, 8, 8, 8, 8, 8, 8, 8, 8, 8, 8, 8, 8, 8, 8, 8, 8, 8, 8, 8, 8, 8, 8, 8, 8, 8, 8, 8, 8, 8, 8]))⟩⟩ : ByteArray)) ((wI .u8 v5.1))).bind fun v7 =>
    some ((wI .i64 (v5.2 + (wI .i64 v7)))))
   fun j5 =>
   AT ((decide (256 ≤ v3.1)))
    (j5 ((Dx .u64 v3.1 8), (wI .i64 (v3.2 + 8))))
    (j5 (v3.1, v3.2)))
  fun j3 =>
  AT ((decide (65536 ≤ v1.1)))
   (j3 ((Dx .u64 v1.1 16), (wI .i64 (v1.2 + 16))))
   (j3 (v1.1, v1.2)))
 fun j1 =>
 AT ((decide (4294967296 ≤ p0)))
  (j1 ((Dx .u64 p0 32), 32))
  (j1 (p0, 0))
def Db (N : Nat) (p0 : Int) : Option Int :=
 AT false
  ((zFS N ((wI .u32 p0))).bind fun v2 =>
  some v2)
  ((FN N p0).bind fun v3 =>
  some v3)
variable {α : Type}
def Gs.insertionSort_L4 (N : Nat) (p1 : Int) (p3 : (α × α) → Option Int) (j4 : ((List α)) → Option ((List α))) : Nat → ((List α) × Int) → Option ((List α))
 | 0, _ => none
 | n4 + 1, v4 =>
  A7 (fun (v6 : Bool) =>
   AT v6
    ((A4 v4.1 ((wI .i64 (v4.2 - 1)))).bind fun v12 =>
    (A4 v4.1 v4.2).bind fun v13 =>
    (A4 v4.1 v4.2).bind fun _ =>
    (A4 (v4.1.set ((v4.2).toNat) v12) ((wI .i64 (v4.2 - 1)))).bind fun _ =>
    Gs.insertionSort_L4 N p1 p3 j4 n4 ((v4.1.set ((v4.2).toNat) v12).set (((wI .i64 (v4.2 - 1))).toNat) v13, (wI .i64 (v4.2 - 1))))
    (j4 v4.1))
  fun j6 =>
  AT ((decide (p1 < v4.2)))
   ((A4 v4.1 v4.2).bind fun v8 =>
   (A4 v4.1 ((wI .i64 (v4.2 - 1)))).bind fun v9 =>
   (p3 ((v8, v9))).bind fun v10 =>
   j6 (decide (v10 < 0)))
   (j6 false)
def Gs.insertionSort_L1 (N : Nat) (p1 : Int) (p2 : Int) (p3 : (α × α) → Option Int) (j1 : ((List α)) → Option ((List α))) : Nat → ((List α) × Int) → Option ((List α))
 | 0, _ => none
 | n1 + 1, v1 =>
  AT ((decide (v1.2 < p2)))
   (Gs.insertionSort_L4 N p1 p3 (fun (v5 : (List α)) =>
    Gs.insertionSort_L1 N p1 p2 p3 j1 n1 (v5, (wI .i64 (v1.2 + 1)))) N (v1.1, v1.2))
   (j1 v1.1)
def Gs.insertionSort (N : Nat) (p0 : List α) (p1 : Int) (p2 : Int) (p3 : (α × α) → Option Int) : Option ((List α)) :=
 Gs.insertionSort_L1 N p1 p2 p3 (fun (v2 : (List α)) =>
  some v2) N (p0, (wI .i64 (p1 + 1)))
def Gs.siftDown_L1 (N : Nat) (p2 : Int) (p3 : Int) (p4 : (α × α) → Option Int) (j1 : ((List α)) → Option ((List α))) : Nat → ((List α) × Int) → Option ((List α))
 | 0, _ => none
 | n1 + 1, v1 =>
  AT ((decide (p2 ≤ (wI .i64 ((wI .i64 (2 * v1.2)) + 1)))))
   (j1 v1.1)
   (A7 (fun (v4 : Int) =>
    (A4 v1.1 ((wI .i64 (p3 + v1.2)))).bind fun v11 =>
    (A4 v1.1 ((wI .i64 (p3 + v4)))).bind fun v12 =>
    (p4 ((v11, v12))).bind fun v13 =>
    AT ((!((decide (v13 < 0)))))
     (some v1.1)
     ((A4 v1.1 ((wI .i64 (p3 + v4)))).bind fun v15 =>
     (A4 v1.1 ((wI .i64 (p3 + v1.2)))).bind fun v16 =>
     (A4 v1.1 ((wI .i64 (p3 + v1.2)))).bind fun _ =>
     (A4 (v1.1.set (((wI .i64 (p3 + v1.2))).toNat) v15) ((wI .i64 (p3 + v4)))).bind fun _ =>
     Gs.siftDown_L1 N p2 p3 p4 j1 n1 ((v1.1.set (((wI .i64 (p3 + v1.2))).toNat) v15).set (((wI .i64 (p3 + v4))).toNat) v16, v4)))
   fun j4 =>
   A7 (fun (v5 : Bool) =>
    AT v5
     (j4 (wI .i64 ((wI .i64 ((wI .i64 (2 * v1.2)) + 1)) + 1)))
     (j4 (wI .i64 ((wI .i64 (2 * v1.2)) + 1))))
   fun j5 =>
   AT ((decide ((wI .i64 ((wI .i64 ((wI .i64 (2 * v1.2)) + 1)) + 1)) < p2)))
    ((A4 v1.1 ((wI .i64 (p3 + (wI .i64 ((wI .i64 (2 * v1.2)) + 1)))))).bind fun v7 =>
    (A4 v1.1 ((wI .i64 ((wI .i64 (p3 + (wI .i64 ((wI .i64 (2 * v1.2)) + 1)))) + 1)))).bind fun v8 =>
    (p4 ((v7, v8))).bind fun v9 =>
    j5 (decide (v9 < 0)))
    (j5 false))
def Gs.siftDown (N : Nat) (p0 : List α) (p1 : Int) (p2 : Int) (p3 : Int) (p4 : (α × α) → Option Int) : Option ((List α)) :=
 Gs.siftDown_L1 N p2 p3 p4 (fun (v2 : (List α)) =>
  some v2) N (p0, p1)
def Gs.heapSort_L1 (N : Nat) (p1 : Int) (p2 : Int) (p3 : (α × α) → Option Int) (j1 : ((List α)) → Option ((List α))) : Nat → ((List α) × Int) → Option ((List α))
 | 0, _ => none
 | n1 + 1, v1 =>
  AT ((decide (0 ≤ v1.2)))
   ((Gs.siftDown N v1.1 v1.2 ((wI .i64 (p2 - p1))) p1 p3).bind fun v4 =>
   Gs.heapSort_L1 N p1 p2 p3 j1 n1 (v4, (wI .i64 (v1.2 - 1))))
   (j1 v1.1)
def Gs.heapSort_L5 (N : Nat) (p1 : Int) (p3 : (α × α) → Option Int) (j5 : ((List α)) → Option ((List α))) : Nat → ((List α) × Int) → Option ((List α))
 | 0, _ => none
 | n5 + 1, v5 =>
  AT ((decide (0 ≤ v5.2)))
   ((A4 v5.1 ((wI .i64 (p1 + v5.2)))).bind fun v8 =>
   (A4 v5.1 p1).bind fun v9 =>
   (A4 v5.1 p1).bind fun _ =>
   (A4 (v5.1.set ((p1).toNat) v8) ((wI .i64 (p1 + v5.2)))).bind fun _ =>
   (Gs.siftDown N ((v5.1.set ((p1).toNat) v8).set (((wI .i64 (p1 + v5.2))).toNat) v9) 0 v5.2 p1 p3).bind fun v12 =>
   Gs.heapSort_L5 N p1 p3 j5 n5 (v12, (wI .i64 (v5.2 - 1))))
   (j5 v5.1)
def Gs.heapSort (N : Nat) (p0 : List α) (p1 : Int) (p2 : Int) (p3 : (α × α) → Option Int) : Option ((List α)) :=
 Gs.heapSort_L1 N p1 p2 p3 (fun (v2 : (List α)) =>
  Gs.heapSort_L5 N p1 p3 (fun (v6 : (List α)) =>
   some v6) N (v2, (wI .i64 ((wI .i64 (p2 - p1)) - 1)))) N (p0, (wI .i64 (Int.tdiv ((wI .i64 ((wI .i64 (p2 - p1)) - 1))) 2)))
def C1 (N : Nat) (p0 : Int) : Option Int :=
 (Db N ((wI .u64 p0))).bind fun v1 =>
 (DB (0 ≤ v1)).bind fun _ =>
 some ((B3 .u64 1 v1))
def C9 (_ : Nat) (p0 : Int) : Option (Int × Int) :=
 some ((FD .u64 ((FD .u64 ((FD .u64 p0 ((B3 .u64 p0 13)))) ((Dx .u64 ((FD .u64 p0 ((B3 .u64 p0 13)))) 7)))) ((B3 .u64 ((FD .u64 ((FD .u64 p0 ((B3 .u64 p0 13)))) ((Dx .u64 ((FD .u64 p0 ((B3 .u64 p0 13)))) 7)))) 17))), (FD .u64 ((FD .u64 ((FD .u64 p0 ((B3 .u64 p0 13)))) ((Dx .u64 ((FD .u64 p0 ((B3 .u64 p0 13)))) 7)))) ((B3 .u64 ((FD .u64 ((FD .u64 p0 ((B3 .u64 p0 13)))) ((Dx .u64 ((FD .u64 p0 ((B3 .u64 p0 13)))) 7)))) 17))))
def Gs.breakPatterns_L3 (N : Nat) (p1 : Int) (p2 : Int) (v2 : Int) (j3 : ((List α)) → Option ((List α))) : Nat → ((List α) × Int × Int) → Option ((List α))
 | 0, _ => none
 | n3 + 1, v3 =>
  AT ((decide (v3.2.2 ≤ (wI .i64 ((wI .i64 (p1 + (wI .i64 ((wI .i64 (Int.tdiv ((wI .i64 (p2 - p1))) 4)) * 2)))) + 1)))))
   ((C9 N v3.2.1).bind fun v6 =>
   A7 (fun (v7 : Int) =>
    (A4 v3.1 ((wI .i64 (p1 + v7)))).bind fun v9 =>
    (A4 v3.1 v3.2.2).bind fun v10 =>
    (A4 v3.1 v3.2.2).bind fun _ =>
    (A4 (v3.1.set ((v3.2.2).toNat) v9) ((wI .i64 (p1 + v7)))).bind fun _ =>
    Gs.breakPatterns_L3 N p1 p2 v2 j3 n3 ((v3.1.set ((v3.2.2).toNat) v9).set (((wI .i64 (p1 + v7))).toNat) v10, v6.2, (wI .i64 (v3.2.2 + 1))))
   fun j7 =>
   AT ((decide ((wI .i64 (p2 - p1)) ≤ (wI .i64 ((EC .u64 v6.1 ((wI .u64 (v2 - 1)))))))))
    (j7 (wI .i64 ((wI .i64 ((EC .u64 v6.1 ((wI .u64 (v2 - 1)))))) - (wI .i64 (p2 - p1)))))
    (j7 (wI .i64 ((EC .u64 v6.1 ((wI .u64 (v2 - 1))))))))
   (j3 v3.1)
def Gs.breakPatterns (N : Nat) (p0 : List α) (p1 : Int) (p2 : Int) (_ : (α × α) → Option Int) : Option ((List α)) :=
 AT ((decide (8 ≤ (wI .i64 (p2 - p1)))))
  ((C1 N ((wI .i64 (p2 - p1)))).bind fun v2 =>
  Gs.breakPatterns_L3 N p1 p2 v2 (fun (v4 : (List α)) =>
   some v4) N (p0, (wI .u64 ((wI .i64 (p2 - p1)))), (wI .i64 ((wI .i64 (p1 + (wI .i64 ((wI .i64 (Int.tdiv ((wI .i64 (p2 - p1))) 4)) * 2)))) - 1))))
  (some p0)
def Gs.order2 (_ : Nat) (p0 : List α) (p1 : Int) (p2 : Int) (p3 : Int) (p4 : (α × α) → Option Int) : Option (Int × Int × Int) :=
 (A4 p0 p2).bind fun v1 =>
 (A4 p0 p1).bind fun v2 =>
 (p4 ((v1, v2))).bind fun v3 =>
 AT ((decide (v3 < 0)))
  (some (p2, p1, (wI .i64 (p3 + 1))))
  (some (p1, p2, p3))
def Gs.median (N : Nat) (p0 : List α) (p1 : Int) (p2 : Int) (p3 : Int) (p4 : Int) (p5 : (α × α) → Option Int) : Option (Int × Int) :=
 (Gs.order2 N p0 p1 p2 p4 p5).bind fun v1 =>
 (Gs.order2 N p0 v1.2.1 p3 v1.2.2 p5).bind fun v2 =>
 (Gs.order2 N p0 v1.1 v2.1 v2.2.2 p5).bind fun v3 =>
 some (v3.2.1, v3.2.2)
def Gs.medianAdjacent (N : Nat) (p0 : List α) (p1 : Int) (p2 : Int) (p3 : (α × α) → Option Int) : Option (Int × Int) :=
 (Gs.median N p0 ((wI .i64 (p1 - 1))) p1 ((wI .i64 (p1 + 1))) p2 p3).bind fun v1 =>
 some (v1.1, v1.2)
def Gs.choosePivot (N : Nat) (p0 : List α) (p1 : Int) (p2 : Int) (p3 : (α × α) → Option Int) : Option (Int × Int) :=
 A7 (fun (v1 : Int × Int) =>
  AT ((v1.1 == 0))
   (some (v1.2, 1))
   (AT ((v1.1 == 12))
    (some (v1.2, 2))
    (some (v1.2, 0))))
 fun j1 =>
 AT ((decide (8 ≤ (wI .i64 (p2 - p1)))))
  (A7 (fun (v3 : Int × Int × Int × Int) =>
   (Gs.median N p0 v3.2.1 v3.2.2.1 v3.2.2.2 v3.1 p3).bind fun v8 =>
   j1 (v8.2, v8.1))
  fun j3 =>
  AT ((decide (50 ≤ (wI .i64 (p2 - p1)))))
   ((Gs.medianAdjacent N p0 ((wI .i64 (p1 + (wI .i64 ((wI .i64 (Int.tdiv ((wI .i64 (p2 - p1))) 4)) * 1))))) 0 p3).bind fun v5 =>
   (Gs.medianAdjacent N p0 ((wI .i64 (p1 + (wI .i64 ((wI .i64 (Int.tdiv ((wI .i64 (p2 - p1))) 4)) * 2))))) v5.2 p3).bind fun v6 =>
   (Gs.medianAdjacent N p0 ((wI .i64 (p1 + (wI .i64 ((wI .i64 (Int.tdiv ((wI .i64 (p2 - p1))) 4)) * 3))))) v6.2 p3).bind fun v7 =>
   j3 (v7.2, v5.1, v6.1, v7.1))
   (j3 (0, (wI .i64 (p1 + (wI .i64 ((wI .i64 (Int.tdiv ((wI .i64 (p2 - p1))) 4)) * 1)))), (wI .i64 (p1 + (wI .i64 ((wI .i64 (Int.tdiv ((wI .i64 (p2 - p1))) 4)) * 2)))), (wI .i64 (p1 + (wI .i64 ((wI .i64 (Int.tdiv ((wI .i64 (p2 - p1))) 4)) * 3)))))))
  (j1 (0, (wI .i64 (p1 + (wI .i64 ((wI .i64 (Int.tdiv ((wI .i64 (p2 - p1))) 4)) * 2))))))
def Gs.reverseRange_L1 (N : Nat) (j1 : ((List α)) → Option ((List α))) : Nat → ((List α) × Int × Int) → Option ((List α))
 | 0, _ => none
 | n1 + 1, v1 =>
  AT ((decide (v1.2.1 < v1.2.2)))
   ((A4 v1.1 v1.2.2).bind fun v4 =>
   (A4 v1.1 v1.2.1).bind fun v5 =>
   (A4 v1.1 v1.2.1).bind fun _ =>
   (A4 (v1.1.set ((v1.2.1).toNat) v4) v1.2.2).bind fun _ =>
   Gs.reverseRange_L1 N j1 n1 ((v1.1.set ((v1.2.1).toNat) v4).set ((v1.2.2).toNat) v5, (wI .i64 (v1.2.1 + 1)), (wI .i64 (v1.2.2 - 1))))
   (j1 v1.1)
def Gs.reverseRange (N : Nat) (p0 : List α) (p1 : Int) (p2 : Int) (_ : (α × α) → Option Int) : Option ((List α)) :=
 Gs.reverseRange_L1 N (fun (v2 : (List α)) =>
  some v2) N (p0, p1, (wI .i64 (p2 - 1)))
def Gs.partialInsertionSort_L5 (N : Nat) (p2 : Int) (p3 : (α × α) → Option Int) (v1 : (List α) × Int × Int) (j5 : Int → Option (Bool × (List α))) : Nat → Int → Option (Bool × (List α))
 | 0, _ => none
 | n5 + 1, v5 =>
  A7 (fun (v7 : Bool) =>
   AT v7
    (Gs.partialInsertionSort_L5 N p2 p3 v1 j5 n5 (wI .i64 (v5 + 1)))
    (j5 v5))
  fun j7 =>
  AT ((decide (v5 < p2)))
   ((A4 v1.1 v5).bind fun v9 =>
   (A4 v1.1 ((wI .i64 (v5 - 1)))).bind fun v10 =>
   (p3 ((v9, v10))).bind fun v11 =>
   j7 (!((decide (v11 < 0)))))
   (j7 false)
def Gs.partialInsertionSort_L21 (N : Nat) (p3 : (α × α) → Option Int) (j21 : ((List α)) → Option (Bool × (List α))) : Nat → ((List α) × Int) → Option (Bool × (List α))
 | 0, _ => none
 | n21 + 1, v21 =>
  AT ((decide (1 ≤ v21.2)))
   ((A4 v21.1 v21.2).bind fun v24 =>
   (A4 v21.1 ((wI .i64 (v21.2 - 1)))).bind fun v25 =>
   (p3 ((v24, v25))).bind fun v26 =>
   AT ((!((decide (v26 < 0)))))
    (j21 v21.1)
    ((A4 v21.1 ((wI .i64 (v21.2 - 1)))).bind fun v28 =>
    (A4 v21.1 v21.2).bind fun v29 =>
    (A4 v21.1 v21.2).bind fun _ =>
    (A4 (v21.1.set ((v21.2).toNat) v28) ((wI .i64 (v21.2 - 1)))).bind fun _ =>
    Gs.partialInsertionSort_L21 N p3 j21 n21 ((v21.1.set ((v21.2).toNat) v28).set (((wI .i64 (v21.2 - 1))).toNat) v29, (wI .i64 (v21.2 - 1)))))
   (j21 v21.1)
def Gs.partialInsertionSort_L33 (N : Nat) (p2 : Int) (p3 : (α × α) → Option Int) (j33 : ((List α)) → Option (Bool × (List α))) : Nat → ((List α) × Int) → Option (Bool × (List α))
 | 0, _ => none
 | n33 + 1, v33 =>
  AT ((decide (v33.2 < p2)))
   ((A4 v33.1 v33.2).bind fun v36 =>
   (A4 v33.1 ((wI .i64 (v33.2 - 1)))).bind fun v37 =>
   (p3 ((v36, v37))).bind fun v38 =>
   AT ((!((decide (v38 < 0)))))
    (j33 v33.1)
    ((A4 v33.1 ((wI .i64 (v33.2 - 1)))).bind fun v40 =>
    (A4 v33.1 v33.2).bind fun v41 =>
    (A4 v33.1 v33.2).bind fun _ =>
    (A4 (v33.1.set ((v33.2).toNat) v40) ((wI .i64 (v33.2 - 1)))).bind fun _ =>
    Gs.partialInsertionSort_L33 N p2 p3 j33 n33 ((v33.1.set ((v33.2).toNat) v40).set (((wI .i64 (v33.2 - 1))).toNat) v41, (wI .i64 (v33.2 + 1)))))
   (j33 v33.1)
def Gs.partialInsertionSort_L1 (N : Nat) (p1 : Int) (p2 : Int) (p3 : (α × α) → Option Int) (j1 : ((List α)) → Option (Bool × (List α))) : Nat → ((List α) × Int × Int) → Option (Bool × (List α))
 | 0, _ => none
 | n1 + 1, v1 =>
  AT ((decide (v1.2.2 < 5)))
   (A7 (fun (v4 : (List α) × Int) =>
    Gs.partialInsertionSort_L1 N p1 p2 p3 j1 n1 (v4.1, v4.2, (wI .i64 (v1.2.2 + 1))))
   fun j4 =>
   Gs.partialInsertionSort_L5 N p2 p3 v1 (fun (v6 : Int) =>
    AT ((v6 == p2))
     (some (true, v1.1))
     (AT ((decide ((wI .i64 (p2 - p1)) < 50)))
      (some (false, v1.1))
      ((A4 v1.1 ((wI .i64 (v6 - 1)))).bind fun v15 =>
      (A4 v1.1 v6).bind fun v16 =>
      (A4 v1.1 v6).bind fun _ =>
      (A4 (v1.1.set ((v6).toNat) v15) ((wI .i64 (v6 - 1)))).bind fun _ =>
      A7 (fun (v19 : (List α)) =>
       AT ((decide (2 ≤ (wI .i64 (p2 - v6)))))
        (Gs.partialInsertionSort_L33 N p2 p3 (fun (v34 : (List α)) =>
         j4 (v34, v6)) N (v19, (wI .i64 (v6 + 1))))
        (j4 (v19, v6)))
      fun j19 =>
      AT ((decide (2 ≤ (wI .i64 (v6 - p1)))))
       (Gs.partialInsertionSort_L21 N p3 (fun (v22 : (List α)) =>
        j19 v22) N ((v1.1.set ((v6).toNat) v15).set (((wI .i64 (v6 - 1))).toNat) v16, (wI .i64 (v6 - 1))))
       (j19 ((v1.1.set ((v6).toNat) v15).set (((wI .i64 (v6 - 1))).toNat) v16))))) N v1.2.1)
   (j1 v1.1)
def Gs.partialInsertionSort (N : Nat) (p0 : List α) (p1 : Int) (p2 : Int) (p3 : (α × α) → Option Int) : Option (Bool × (List α)) :=
 Gs.partialInsertionSort_L1 N p1 p2 p3 (fun (v2 : (List α)) =>
  some (false, v2)) N (p0, (wI .i64 (p1 + 1)), 0)
def Gs.partitionEqual_L7 (N : Nat) (p1 : Int) (p4 : (α × α) → Option Int) (v5 : (List α) × Int × Int) (j7 : Int → Option (Int × (List α))) : Nat → Int → Option (Int × (List α))
 | 0, _ => none
 | n7 + 1, v7 =>
  A7 (fun (v9 : Bool) =>
   AT v9
    (Gs.partitionEqual_L7 N p1 p4 v5 j7 n7 (wI .i64 (v7 + 1)))
    (j7 v7))
  fun j9 =>
  AT ((decide (v7 ≤ v5.2.2)))
   ((A4 v5.1 p1).bind fun v11 =>
   (A4 v5.1 v7).bind fun v12 =>
   (p4 ((v11, v12))).bind fun v13 =>
   j9 (!((decide (v13 < 0)))))
   (j9 false)
def Gs.partitionEqual_L15 (N : Nat) (p1 : Int) (p4 : (α × α) → Option Int) (v5 : (List α) × Int × Int) (v8 : Int) (j15 : Int → Option (Int × (List α))) : Nat → Int → Option (Int × (List α))
 | 0, _ => none
 | n15 + 1, v15 =>
  A7 (fun (v17 : Bool) =>
   AT v17
    (Gs.partitionEqual_L15 N p1 p4 v5 v8 j15 n15 (wI .i64 (v15 - 1)))
    (j15 v15))
  fun j17 =>
  AT ((decide (v8 ≤ v15)))
   ((A4 v5.1 p1).bind fun v19 =>
   (A4 v5.1 v15).bind fun v20 =>
   (p4 ((v19, v20))).bind fun v21 =>
   j17 (decide (v21 < 0)))
   (j17 false)
def Gs.partitionEqual_L5 (N : Nat) (p1 : Int) (p4 : (α × α) → Option Int) (j5 : ((List α) × Int) → Option (Int × (List α))) : Nat → ((List α) × Int × Int) → Option (Int × (List α))
 | 0, _ => none
 | n5 + 1, v5 =>
  Gs.partitionEqual_L7 N p1 p4 v5 (fun (v8 : Int) =>
   Gs.partitionEqual_L15 N p1 p4 v5 v8 (fun (v16 : Int) =>
    AT ((decide (v16 < v8)))
     (j5 (v5.1, v8))
     ((A4 v5.1 v16).bind fun v24 =>
     (A4 v5.1 v8).bind fun v25 =>
     (A4 v5.1 v8).bind fun _ =>
     (A4 (v5.1.set ((v8).toNat) v24) v16).bind fun _ =>
     Gs.partitionEqual_L5 N p1 p4 j5 n5 ((v5.1.set ((v8).toNat) v24).set ((v16).toNat) v25, (wI .i64 (v8 + 1)), (wI .i64 (v16 - 1))))) N v5.2.2) N v5.2.1
def Gs.partitionEqual (N : Nat) (p0 : List α) (p1 : Int) (p2 : Int) (p3 : Int) (p4 : (α × α) → Option Int) : Option (Int × (List α)) :=
 (A4 p0 p3).bind fun v1 =>
 (A4 p0 p1).bind fun v2 =>
 (A4 p0 p1).bind fun _ =>
 (A4 (p0.set ((p1).toNat) v1) p3).bind fun _ =>
 Gs.partitionEqual_L5 N p1 p4 (fun (v6 : (List α) × Int) =>
  some (v6.2, v6.1)) N ((p0.set ((p1).toNat) v1).set ((p3).toNat) v2, (wI .i64 (p1 + 1)), (wI .i64 (p2 - 1)))
def Gs.partition_L5 (N : Nat) (p0 : List α) (p1 : Int) (p2 : Int) (p3 : Int) (p4 : (α × α) → Option Int) (v1 : α) (v2 : α) (j5 : Int → Option (Int × Bool × (List α))) : Nat → Int → Option (Int × Bool × (List α))
 | 0, _ => none
 | n5 + 1, v5 =>
  A7 (fun (v7 : Bool) =>
   AT v7
    (Gs.partition_L5 N p0 p1 p2 p3 p4 v1 v2 j5 n5 (wI .i64 (v5 + 1)))
    (j5 v5))
  fun j7 =>
  AT ((decide (v5 ≤ (wI .i64 (p2 - 1)))))
   ((A4 ((p0.set ((p1).toNat) v1).set ((p3).toNat) v2) v5).bind fun v9 =>
   (A4 ((p0.set ((p1).toNat) v1).set ((p3).toNat) v2) p1).bind fun v10 =>
   (p4 ((v9, v10))).bind fun v11 =>
   j7 (decide (v11 < 0)))
   (j7 false)
def Gs.partition_L13 (N : Nat) (p0 : List α) (p1 : Int) (p3 : Int) (p4 : (α × α) → Option Int) (v1 : α) (v2 : α) (v6 : Int) (j13 : Int → Option (Int × Bool × (List α))) : Nat → Int → Option (Int × Bool × (List α))
 | 0, _ => none
 | n13 + 1, v13 =>
  A7 (fun (v15 : Bool) =>
   AT v15
    (Gs.partition_L13 N p0 p1 p3 p4 v1 v2 v6 j13 n13 (wI .i64 (v13 - 1)))
    (j13 v13))
  fun j15 =>
  AT ((decide (v6 ≤ v13)))
   ((A4 ((p0.set ((p1).toNat) v1).set ((p3).toNat) v2) v13).bind fun v17 =>
   (A4 ((p0.set ((p1).toNat) v1).set ((p3).toNat) v2) p1).bind fun v18 =>
   (p4 ((v17, v18))).bind fun v19 =>
   j15 (!((decide (v19 < 0)))))
   (j15 false)
def Gs.partition_L32 (N : Nat) (p1 : Int) (p4 : (α × α) → Option Int) (v30 : (List α) × Int × Int) (j32 : Int → Option (Int × Bool × (List α))) : Nat → Int → Option (Int × Bool × (List α))
 | 0, _ => none
 | n32 + 1, v32 =>
  A7 (fun (v34 : Bool) =>
   AT v34
    (Gs.partition_L32 N p1 p4 v30 j32 n32 (wI .i64 (v32 + 1)))
    (j32 v32))
  fun j34 =>
  AT ((decide (v32 ≤ v30.2.2)))
   ((A4 v30.1 v32).bind fun v36 =>
   (A4 v30.1 p1).bind fun v37 =>
   (p4 ((v36, v37))).bind fun v38 =>
   j34 (decide (v38 < 0)))
   (j34 false)
def Gs.partition_L40 (N : Nat) (p1 : Int) (p4 : (α × α) → Option Int) (v30 : (List α) × Int × Int) (v33 : Int) (j40 : Int → Option (Int × Bool × (List α))) : Nat → Int → Option (Int × Bool × (List α))
 | 0, _ => none
 | n40 + 1, v40 =>
  A7 (fun (v42 : Bool) =>
   AT v42
    (Gs.partition_L40 N p1 p4 v30 v33 j40 n40 (wI .i64 (v40 - 1)))
    (j40 v40))
  fun j42 =>
  AT ((decide (v33 ≤ v40)))
   ((A4 v30.1 v40).bind fun v44 =>
   (A4 v30.1 p1).bind fun v45 =>
   (p4 ((v44, v45))).bind fun v46 =>
   j42 (!((decide (v46 < 0)))))
   (j42 false)
def Gs.partition_L30 (N : Nat) (p1 : Int) (p4 : (α × α) → Option Int) (j30 : ((List α) × Int) → Option (Int × Bool × (List α))) : Nat → ((List α) × Int × Int) → Option (Int × Bool × (List α))
 | 0, _ => none
 | n30 + 1, v30 =>
  Gs.partition_L32 N p1 p4 v30 (fun (v33 : Int) =>
   Gs.partition_L40 N p1 p4 v30 v33 (fun (v41 : Int) =>
    AT ((decide (v41 < v33)))
     (j30 (v30.1, v41))
     ((A4 v30.1 v41).bind fun v49 =>
     (A4 v30.1 v33).bind fun v50 =>
     (A4 v30.1 v33).bind fun _ =>
     (A4 (v30.1.set ((v33).toNat) v49) v41).bind fun _ =>
     Gs.partition_L30 N p1 p4 j30 n30 ((v30.1.set ((v33).toNat) v49).set ((v41).toNat) v50, (wI .i64 (v33 + 1)), (wI .i64 (v41 - 1))))) N v30.2.2) N v30.2.1
def Gs.partition (N : Nat) (p0 : List α) (p1 : Int) (p2 : Int) (p3 : Int) (p4 : (α × α) → Option Int) : Option (Int × Bool × (List α)) :=
 (A4 p0 p3).bind fun v1 =>
 (A4 p0 p1).bind fun v2 =>
 (A4 p0 p1).bind fun _ =>
 (A4 (p0.set ((p1).toNat) v1) p3).bind fun _ =>
 Gs.partition_L5 N p0 p1 p2 p3 p4 v1 v2 (fun (v6 : Int) =>
  Gs.partition_L13 N p0 p1 p3 p4 v1 v2 v6 (fun (v14 : Int) =>
   AT ((decide (v14 < v6)))
    ((A4 ((p0.set ((p1).toNat) v1).set ((p3).toNat) v2) p1).bind fun v22 =>
    (A4 ((p0.set ((p1).toNat) v1).set ((p3).toNat) v2) v14).bind fun v23 =>
    (A4 ((p0.set ((p1).toNat) v1).set ((p3).toNat) v2) v14).bind fun _ =>
    (A4 (((p0.set ((p1).toNat) v1).set ((p3).toNat) v2).set ((v14).toNat) v22) p1).bind fun _ =>
    some (v14, true, (((p0.set ((p1).toNat) v1).set ((p3).toNat) v2).set ((v14).toNat) v22).set ((p1).toNat) v23))
    ((A4 ((p0.set ((p1).toNat) v1).set ((p3).toNat) v2) v14).bind fun v26 =>
    (A4 ((p0.set ((p1).toNat) v1).set ((p3).toNat) v2) v6).bind fun v27 =>
    (A4 ((p0.set ((p1).toNat) v1).set ((p3).toNat) v2) v6).bind fun _ =>
    (A4 (((p0.set ((p1).toNat) v1).set ((p3).toNat) v2).set ((v6).toNat) v26) v14).bind fun _ =>
    Gs.partition_L30 N p1 p4 (fun (v31 : (List α) × Int) =>
     (A4 v31.1 p1).bind fun v53 =>
     (A4 v31.1 v31.2).bind fun v54 =>
     (A4 v31.1 v31.2).bind fun _ =>
     (A4 (v31.1.set ((v31.2).toNat) v53) p1).bind fun _ =>
     some (v31.2, false, (v31.1.set ((v31.2).toNat) v53).set ((p1).toNat) v54)) N ((((p0.set ((p1).toNat) v1).set ((p3).toNat) v2).set ((v6).toNat) v26).set ((v14).toNat) v27, (wI .i64 (v6 + 1)), (wI .i64 (v14 - 1))))) N (wI .i64 (p2 - 1))) N (wI .i64 (p1 + 1))
def Gs.pdqsort_L1 (N : Nat) (p4 : (α × α) → Option Int) (rc : (List α) → Int → Int → Int → ((α × α) → Option Int) → Option ((List α))) (j1 : Unit → Option ((List α))) : Nat → ((List α) × Int × Int × Int × Bool × Bool) → Option ((List α))
 | 0, _ => none
 | n1 + 1, v1 =>
  AT ((decide ((wI .i64 (v1.2.2.1 - v1.2.1)) ≤ 12)))
   ((Gs.insertionSort N v1.1 v1.2.1 v1.2.2.1 p4).bind fun v4 =>
   some v4)
   (AT ((v1.2.2.2.1 == 0))
    ((Gs.heapSort N v1.1 v1.2.1 v1.2.2.1 p4).bind fun v6 =>
    some v6)
    (A7 (fun (v7 : (List α) × Int) =>
     (Gs.choosePivot N v7.1 v1.2.1 v1.2.2.1 p4).bind fun v10 =>
     A7 (fun (v11 : (List α) × Int × Int) =>
      A7 (fun (v14 : (List α)) =>
       A7 (fun (v21 : Bool) =>
        AT v21
         ((Gs.partitionEqual N v14 v1.2.1 v1.2.2.1 v11.2.1 p4).bind fun v27 =>
         Gs.pdqsort_L1 N p4 rc j1 n1 (v27.2, v27.1, v1.2.2.1, v7.2, v1.2.2.2.2.1, v1.2.2.2.2.2))
         ((Gs.partition N v14 v1.2.1 v1.2.2.1 v11.2.1 p4).bind fun v28 =>
         AT ((decide ((wI .i64 (v28.1 - v1.2.1)) < (wI .i64 (v1.2.2.1 - v28.1)))))
          ((rc v28.2.2 v1.2.1 v28.1 v7.2 p4).bind fun v30 =>
          Gs.pdqsort_L1 N p4 rc j1 n1 (v30, (wI .i64 (v28.1 + 1)), v1.2.2.1, v7.2, (decide ((wI .i64 (Int.tdiv ((wI .i64 (v1.2.2.1 - v1.2.1))) 8)) ≤ (wI .i64 (v28.1 - v1.2.1)))), v28.2.1))
          ((rc v28.2.2 ((wI .i64 (v28.1 + 1))) v1.2.2.1 v7.2 p4).bind fun v31 =>
          Gs.pdqsort_L1 N p4 rc j1 n1 (v31, v1.2.1, v28.1, v7.2, (decide ((wI .i64 (Int.tdiv ((wI .i64 (v1.2.2.1 - v1.2.1))) 8)) ≤ (wI .i64 (v1.2.2.1 - v28.1)))), v28.2.1))))
       fun j21 =>
       AT ((decide (0 < v1.2.1)))
        ((A4 v14 ((wI .i64 (v1.2.1 - 1)))).bind fun v23 =>
        (A4 v14 v11.2.1).bind fun v24 =>
        (p4 ((v23, v24))).bind fun v25 =>
        j21 (!((decide (v25 < 0)))))
        (j21 false))
      fun j14 =>
      A7 (fun (v15 : Bool) =>
       AT v15
        ((Gs.partialInsertionSort N v11.1 v1.2.1 v1.2.2.1 p4).bind fun v19 =>
        AT v19.1
         (some v19.2)
         (j14 v19.2))
        (j14 v11.1))
      fun j15 =>
      AT v1.2.2.2.2.1
       (AT v1.2.2.2.2.2
        (j15 (v11.2.2 == 1))
        (j15 false))
       (j15 false))
     fun j11 =>
     AT ((v10.2 == 2))
      ((Gs.reverseRange N v7.1 v1.2.1 v1.2.2.1 p4).bind fun v13 =>
      j11 (v13, (wI .i64 ((wI .i64 (v1.2.2.1 - 1)) - (wI .i64 (v10.1 - v1.2.1)))), 1))
      (j11 (v7.1, v10.1, v10.2)))
    fun j7 =>
    AT ((!v1.2.2.2.2.1))
     ((Gs.breakPatterns N v1.1 v1.2.1 v1.2.2.1 p4).bind fun v9 =>
     j7 (v9, (wI .i64 (v1.2.2.2.1 - 1))))
     (j7 (v1.1, v1.2.2.2.1))))
def Gs.pdqsort_B (N : Nat) (rc : (List α) → Int → Int → Int → ((α × α) → Option Int) → Option ((List α))) (p0 : List α) (p1 : Int) (p2 : Int) (p3 : Int) (p4 : (α × α) → Option Int) : Option ((List α)) :=
 Gs.pdqsort_L1 N p4 rc (fun (_ : Unit) =>
  none) N (p0, p1, p2, p3, true, true)
def Gs.pdqsort_R (N : Nat) : Nat → (List α) → Int → Int → Int → ((α × α) → Option Int) → Option ((List α))
 | 0, _, _, _, _, _ => none
 | k + 1, p0, p1, p2, p3, p4 => Gs.pdqsort_B N (Gs.pdqsort_R N k) p0 p1 p2 p3 p4
def Gs.pdqsort (N : Nat) (p0 : List α) (p1 : Int) (p2 : Int) (p3 : Int) (p4 : (α × α) → Option Int) : Option ((List α)) := Gs.pdqsort_R N N p0 p1 p2 p3 p4
def Bd (N : Nat) (p0 : List Ae) (p1 : (Ae × Ae) → Option Int) : Option ((List Ae)) :=
 (Db N ((wI .u64 ((p0.length : Int))))).bind fun v1 =>
 (Gs.pdqsort N p0 0 ((p0.length : Int)) v1 p1).bind fun v2 =>
 some v2
def EA (_ : Nat) (p0 : Int) : Option Bool :=
 some ((p0 != p0))
def D9 (N : Nat) (p0 : Int) (p1 : Int) : Option Int :=
 (EA N p0).bind fun v1 =>
 (EA N p1).bind fun v2 =>
 AT v1
  (AT v2
   (some 0)
   (some ((-1))))
  (AT v2
   (some 1)
   (AT ((decide (p0 < p1)))
    (some ((-1)))
    (AT ((decide (p1 < p0)))
     (some 1)
     (some 0))))
def B1 (N : Nat) (p0 : List Int) (p1 : List Int) (j1 : Unit → Option Int) : Nat → Int → Option Int
 | 0, _ => none
 | n1 + 1, v1 =>
  AT ((decide (v1 < (p0.length : Int))))
   ((A4 p0 v1).bind fun v4 =>
   AT ((decide ((p1.length : Int) ≤ v1)))
    (some 1)
    ((A4 p1 v1).bind fun v6 =>
    (D9 N v4 v6).bind fun v7 =>
    AT ((v7 != 0))
     (some v7)
     (B1 N p0 p1 j1 n1 (wI .i64 (v1 + 1)))))
   (j1 ())
def Cm (N : Nat) (p0 : List Int) (p1 : List Int) : Option Int :=
 B1 N p0 p1 (fun (_ : Unit) =>
  AT ((decide ((p0.length : Int) < (p1.length : Int))))
   (some ((-1)))
   (some 0)) N 0
def DK (_ : Nat) (p0 : Int) : Option Bool :=
 some ((p0 != p0))
def Dk (N : Nat) (p0 : Int) (p1 : Int) : Option Int :=
 (DK N p0).bind fun v1 =>
 (DK N p1).bind fun v2 =>
 AT v1
  (AT v2
   (some 0)
   (some ((-1))))
  (AT v2
   (some 1)
   (AT ((decide (p0 < p1)))
    (some ((-1)))
    (AT ((decide (p1 < p0)))
     (some 1)
     (some 0))))
def Bm (N : Nat) (p0 : List Int) (p1 : List Int) (j1 : Unit → Option Int) : Nat → Int → Option Int
 | 0, _ => none
 | n1 + 1, v1 =>
  AT ((decide (v1 < (p0.length : Int))))
   ((A4 p0 v1).bind fun v4 =>
   AT ((decide ((p1.length : Int) ≤ v1)))
    (some 1)
    ((A4 p1 v1).bind fun v6 =>
    (Dk N v4 v6).bind fun v7 =>
    AT ((v7 != 0))
     (some v7)
     (Bm N p0 p1 j1 n1 (wI .i64 (v1 + 1)))))
   (j1 ())
def BZ (N : Nat) (p0 : List Int) (p1 : List Int) : Option Int :=
 Bm N p0 p1 (fun (_ : Unit) =>
  AT ((decide ((p0.length : Int) < (p1.length : Int))))
   (some ((-1)))
   (some 0)) N 0
def D4 (N : Nat) (p0 : List Int) (j1 : Unit → Option Int) : Nat → Int → Option Int
 | 0, _ => none
 | n1 + 1, v1 =>
  AT ((decide (v1 < (p0.length : Int))))
   ((A4 p0 v1).bind fun v4 =>
   AT ((v4 != 0))
    (some v4)
    (D4 N p0 j1 n1 (wI .i64 (v1 + 1))))
   (j1 ())
def Fx (N : Nat) (p0 : List Int) : Option Int :=
 D4 N p0 (fun (_ : Unit) =>
  some 0) N 0
def Cf (N : Nat) (p0 : Ae) (p1 : Ae) : Option Int :=
 (Cm N p0.fBase p1.fBase).bind fun v1 =>
 (Cm N p0.fNext p1.fNext).bind fun v2 =>
 (BZ N p0.fHeld p1.fHeld).bind fun v3 =>
 (Fx N (([v1, v2, v3] : List Int))).bind fun v4 =>
 some v4
def Es (N : Nat) (v10 : (List Aj) × (List Ae)) (j11 : ((List Ae) × (List (ByteArray × Bool))) → Option ((List Ae) × Int)) : Nat → ((List Ae) × (List (ByteArray × Bool)) × Int) → Option ((List Ae) × Int)
 | 0, _ => none
 | n11 + 1, v11 =>
  AT ((decide (v11.2.2 < (v10.2.length : Int))))
   (A7 (fun (v14 : (List Ae) × (List (ByteArray × Bool))) =>
    Es N v10 j11 n11 (v14.1, v14.2, (wI .i64 (v11.2.2 + 1))))
   fun j14 =>
   (A4 v10.2 v11.2.2).bind fun v15 =>
   (Gf N v15).bind fun v16 =>
   AT ((!(((Ke v16 v11.2.1).getD false))))
    ((Gf N v15).bind fun v18 =>
    (DB (v11.1.length + (([v15] : List Ae)).length ≤ D2)).bind fun _ =>
    j14 (v11.1 ++ (([v15] : List Ae)), KO v18 true v11.2.1))
    (j14 (v11.1, v11.2.1)))
   (j11 (v11.1, v11.2.1))
def EJ (N : Nat) (p0 : Ag) (j6 : ((List Ae)) → Option ((List Ae) × Int)) : Nat → ((List Ae) × (List (ByteArray × Bool)) × Int) → Option ((List Ae) × Int)
 | 0, _ => none
 | n6 + 1, v6 =>
  AT ((decide (v6.2.2 < (v6.1.length : Int))))
   ((A4 v6.1 v6.2.2).bind fun v9 =>
   (GG N p0 v9).bind fun v10 =>
   Es N v10 (fun (v12 : (List Ae) × (List (ByteArray × Bool))) =>
    AT ((decide (20000 < (v12.1.length : Int))))
     (some (([] : List Ae), 3))
     (EJ N p0 j6 n6 (v12.1, v12.2, (wI .i64 (v6.2.2 + 1))))) N (v6.1, v6.2.1, 0))
   (j6 v6.1)
def FF (N : Nat) (p0 : Ag) : Option ((List Ae) × Int) :=
 (F5 N p0).bind fun v1 =>
 A7 (fun (v2 : Bool) =>
  AT v2
   (some (([] : List Ae), v1.2.2))
   ((Gf N v1.1).bind fun v5 =>
   EJ N p0 (fun (v7 : (List Ae)) =>
    (Bd N v7 ((fun (x : Ae × Ae) => Cf N x.1 x.2))).bind fun v21 =>
    some (v21, 0)) N (([v1.1] : List Ae), KO v5 true (([] : List (ByteArray × Bool))), 0)))
 fun j2 =>
 AT ((v1.2.2 != 0))
  (j2 true)
  (j2 (!v1.2.1))
def Fn (N : Nat) (p0 : Ag) (p1 : List Int) (j5 : ((List Aj)) → Option ((List Aj) × Int)) : Nat → ((List Int) × (List Int) × (List Int) × (List Aj) × Int) → Option ((List Aj) × Int)
 | 0, _ => none
 | n5 + 1, v5 =>
  AT ((decide (v5.2.2.2.2 < (p1.length : Int))))
   ((A4 p1 v5.2.2.2.2).bind fun v8 =>
   (GG N p0 ((Ae.mk v5.1 v5.2.1 v5.2.2.1))).bind fun v9 =>
   AT (((v9.1.length : Int) == 0))
    (j5 v5.2.2.2.1)
    ((DB ((v9.1.length : Int) ≠ 0)).bind fun _ =>
    (A4 v9.1 ((Int.tmod ((wI .i64 v8)) ((v9.1.length : Int))))).bind fun v12 =>
    (DB (v5.2.2.2.1.length + (([v12] : List Aj)).length ≤ D2)).bind fun _ =>
    (A4 v9.2 ((Int.tmod ((wI .i64 v8)) ((v9.1.length : Int))))).bind fun v14 =>
    Fn N p0 p1 j5 n5 (v14.fBase, v14.fNext, v14.fHeld, v5.2.2.2.1 ++ (([v12] : List Aj)), (wI .i64 (v5.2.2.2.2 + 1)))))
   (j5 v5.2.2.2.1)
def HK (N : Nat) (p0 : Ag) (p1 : List Int) : Option ((List Aj) × Int) :=
 (F5 N p0).bind fun v1 =>
 A7 (fun (v2 : Bool) =>
  AT v2
   (some (([] : List Aj), v1.2.2))
   (Fn N p0 p1 (fun (v6 : (List Aj)) =>
    some (v6, 0)) N (v1.1.fBase, v1.1.fNext, v1.1.fHeld, ([] : List Aj), 0)))
 fun j2 =>
 AT ((v1.2.2 != 0))
  (j2 true)
  (j2 (!v1.2.1))
def D7 (N : Nat) (p0 : Ag) (p2 : List Aj) (j4 : ((List Ae)) → Option ((List Ae) × Int × Int)) : Nat → ((List Ae) × Int) → Option ((List Ae) × Int × Int)
 | 0, _ => none
 | n4 + 1, v4 =>
  AT ((decide (v4.2 < (p2.length : Int))))
   ((A4 p2 v4.2).bind fun v7 =>
   (A4 v4.1 v4.2).bind fun v8 =>
   (ER N p0 v8 v7).bind fun v9 =>
   AT ((v9.2 != 0))
    (some (([] : List Ae), v4.2, v9.2))
    ((DB (v4.1.length + (([v9.1] : List Ae)).length ≤ D2)).bind fun _ =>
    D7 N p0 p2 j4 n4 (v4.1 ++ (([v9.1] : List Ae)), (wI .i64 (v4.2 + 1)))))
   (j4 v4.1)
def FW (N : Nat) (p0 : Ag) (p1 : Ae) (p2 : List Aj) : Option ((List Ae) × Int × Int) :=
 (Ek N p0 p1).bind fun v1 =>
 AT ((v1 != 0))
  (some (([] : List Ae), 0, v1))
  ((Et N p1).bind fun v3 =>
  D7 N p0 p2 (fun (v5 : (List Ae)) =>
   some (v5, (p2.length : Int), 0)) N (([v3] : List Ae), 0))
def DX (N : Nat) (p0 : Ag) (p1 : List Aj) : Option ((List Ae) × Int × Int) :=
 (Fi N p0).bind fun v1 =>
 AT ((v1.2 != 0))
  (some (([] : List Ae), 0, v1.2))
  ((FW N p0 v1.1 p1).bind fun v3 =>
  some (v3.1, v3.2.1, v3.2.2))
def BN (N : Nat) (p0 : List Ae) (p1 : (Ae × Ae) → Option Bool) (v2 : Int) (j11 : ((List Ae) × Int) → Option (Nat × (List Ae))) : Nat → ((List Ae) × Int × Int) → Option (Nat × (List Ae))
 | 0, _ => none
 | n11 + 1, v11 =>
  AT ((decide (v11.2.2 < ((((p0.length - (v2).toNat)) : Nat) : Int))))
   (A7 (fun (v14 : (List Ae) × Int) =>
    BN N p0 p1 v2 j11 n11 (v14.1, v14.2, (wI .i64 (v11.2.2 + 1))))
   fun j14 =>
   (DB (((v2).toNat) + ((p0.length - (v2).toNat)) ≤ v11.1.length)).bind fun _ =>
   (A4 (((v11.1.drop ((v2).toNat)).take ((p0.length - (v2).toNat)))) v11.2.2).bind fun v15 =>
   (A4 (((v11.1.drop ((v2).toNat)).take ((p0.length - (v2).toNat)))) ((wI .i64 (v11.2.2 - 1)))).bind fun v17 =>
   (p1 ((v15, v17))).bind fun v18 =>
   AT ((!v18))
    ((A4 (((v11.1.drop ((v2).toNat)).take ((p0.length - (v2).toNat)))) v11.2.2).bind fun v20 =>
    (A4 v11.1 v11.2.1).bind fun _ =>
    j14 (v11.1.set ((v11.2.1).toNat) v20, (wI .i64 (v11.2.1 + 1))))
    (j14 (v11.1, v11.2.1)))
   (j11 (v11.1, v11.2.1))
def BQ (N : Nat) (p0 : List Ae) (p1 : (Ae × Ae) → Option Bool) (j2 : Unit → Option (Nat × (List Ae))) : Nat → Int → Option (Nat × (List Ae))
 | 0, _ => none
 | n2 + 1, v2 =>
  AT ((decide (v2 < (p0.length : Int))))
   ((A4 p0 v2).bind fun v5 =>
   (A4 p0 ((wI .i64 (v2 - 1)))).bind fun v6 =>
   (p1 ((v5, v6))).bind fun v7 =>
   AT v7
    ((DB ((0 : Int) ≤ v2 ∧ (v2).toNat ≤ p0.length ∧ p0.length ≤ p0.length)).bind fun _ =>
    BN N p0 p1 v2 (fun (v12 : (List Ae) × Int) =>
     (DB ((0 : Int) ≤ v12.2 ∧ (v12.2).toNat ≤ v12.1.length ∧ v12.1.length ≤ v12.1.length)).bind fun _ =>
     (DB ((0 : Int) ≤ v12.2 ∧ 0 ≤ (v12.2).toNat ∧ (v12.2).toNat ≤ (Hb v12.1 ((v12.2).toNat) (List.replicate ((v12.1.length - (v12.2).toNat)) ((Ae.mk (([] : List Int)) (([] : List Int)) (([] : List Int)))))).length)).bind fun _ =>
     some ((v12.2).toNat, Hb v12.1 ((v12.2).toNat) (List.replicate ((v12.1.length - (v12.2).toNat)) ((Ae.mk (([] : List Int)) (([] : List Int)) (([] : List Int))))))) N (p0, v2, 1))
    (BQ N p0 p1 j2 n2 (wI .i64 (v2 + 1))))
   (j2 ())
def BB (N : Nat) (p0 : List Ae) (p1 : (Ae × Ae) → Option Bool) : Option (Nat × (List Ae)) :=
 AT ((decide ((p0.length : Int) < 2)))
  (some (p0.length, p0))
  (BQ N p0 p1 (fun (_ : Unit) =>
   some (p0.length, p0)) N 1)
def CM (N : Nat) (p0 : Ae) (p1 : Ae) : Option Bool :=
 (Cf N p0 p1).bind fun v1 =>
 some ((v1 == 0))
def DQ (N : Nat) (p0 : Ag) (v1 : (List Ae) × Int × Int) (j3 : ((List Ae)) → Option ((List Ae) × Int)) : Nat → ((List Ae) × Int) → Option ((List Ae) × Int)
 | 0, _ => none
 | n3 + 1, v3 =>
  AT ((decide (v3.2 < (v1.1.length : Int))))
   ((A4 v1.1 v3.2).bind fun v6 =>
   (ET N p0 v6).bind fun v7 =>
   AT ((v7.2 != 0))
    (some (([] : List Ae), v7.2))
    ((DB (v3.1.length + v7.1.length ≤ D2)).bind fun _ =>
    DQ N p0 v1 j3 n3 (v3.1 ++ v7.1, (wI .i64 (v3.2 + 1)))))
   (j3 v3.1)
def Ex (N : Nat) (p0 : Ag) (p1 : List Aj) : Option ((List Ae) × Int) :=
 (DX N p0 p1).bind fun v1 =>
 AT ((v1.2.2 != 0))
  (some (([] : List Ae), v1.2.2))
  (DQ N p0 v1 (fun (v4 : (List Ae)) =>
   (Bd N v4 ((fun (x : Ae × Ae) => Cf N x.1 x.2))).bind fun v10 =>
   (BB N v10 ((fun (x : Ae × Ae) => CM N x.1 x.2))).bind fun v11 =>
   (DB (v11.1 ≤ v11.2.length)).bind fun _ =>
   some (v11.2.take v11.1, 0)) N (([] : List Ae), 0))
def Fh (N : Nat) (p0 : Ag) (v1 : (List Ae) × Int × Int) (j3 : Unit → Option (Bool × Int)) : Nat → Int → Option (Bool × Int)
 | 0, _ => none
 | n3 + 1, v3 =>
  AT ((decide (v3 < (v1.1.length : Int))))
   ((A4 v1.1 v3).bind fun v6 =>
   (FB N p0 v6).bind fun v7 =>
   A7 (fun (v8 : Bool) =>
    AT v8
     (some (false, v7.2))
     (Fh N p0 v1 j3 n3 (wI .i64 (v3 + 1))))
   fun j8 =>
   AT ((v7.2 != 0))
    (j8 true)
    (j8 (!v7.1)))
   (j3 ())
def HQ (N : Nat) (p0 : Ag) (p1 : List Aj) : Option (Bool × Int) :=
 (DX N p0 p1).bind fun v1 =>
 AT ((v1.2.2 != 0))
  (some (false, v1.2.2))
  (Fh N p0 v1 (fun (_ : Unit) =>
   some (true, 0)) N 0)
def DE (N : Nat) : Option Bool :=
 (Co N false).bind fun v1 =>
 (FF N v1).bind fun v2 =>
 (Co N true).bind fun v3 =>
 (FF N v3).bind fun v4 =>
 (Co N false).bind fun v5 =>
 (HK N v5 (([1, 2, 3] : List Int))).bind fun v6 =>
 (Co N false).bind fun v7 =>
 (Ex N v7 (([(Aj.mk 1 0 1)] : List Aj))).bind fun v8 =>
 (Co N false).bind fun v9 =>
 (HQ N v9 (([(Aj.mk 1 0 1)] : List Aj))).bind fun v10 =>
 A7 (fun (v11 : Bool) =>
  some v11)
 fun j11 =>
 AT ((v2.2 == 0))
  (AT ((v4.2 == 0))
   (AT ((v6.2 == 0))
    (AT ((v8.2 == 0))
     (AT ((v10.2 == 0))
      (AT (((v2.1.length : Int) == 1))
       (AT (((v4.1.length : Int) == 4))
        (AT (((v6.1.length : Int) == 0))
         (AT (((v8.1.length : Int) == 2))
          (j11 (!v10.1))
          (j11 false))
         (j11 false))
        (j11 false))
       (j11 false))
      (j11 false))
     (j11 false))
    (j11 false))
   (j11 false))
  (j11 false)
def B7 (N : Nat) (p0 : List (List Bool)) (p1 : Int) (p2 : Int) (j2 : Unit → Option Bool) : Nat → Int → Option Bool
 | 0, _ => none
 | n2 + 1, v2 =>
  AT ((decide (v2 < p1)))
   ((A4 p0 v2).bind fun v5 =>
   AT (((v5.length : Int) != p2))
    (some false)
    (B7 N p0 p1 p2 j2 n2 (wI .i64 (v2 + 1))))
   (j2 ())
def CZ (N : Nat) (p0 : List (List Bool)) (p1 : Int) (p2 : Int) : Option Bool :=
 AT (((p0.length : Int) != p1))
  (some false)
  (B7 N p0 p1 p2 (fun (_ : Unit) =>
   some true) N 0)
def BK (N : Nat) (p1 : AO) (j22 : Unit → Option Int) : Nat → Int → Option Int
 | 0, _ => none
 | n22 + 1, v22 =>
  AT ((decide (v22 < (p1.fRewrite.length : Int))))
   ((A4 p1.fRewrite v22).bind fun v25 =>
   (A4 v25 v22).bind fun v26 =>
   AT ((!v26))
    (some 1)
    (BK N p1 j22 n22 (wI .i64 (v22 + 1))))
   (j22 ())
def DF (N : Nat) (p0 : Ag) (p1 : AO) : Option Int :=
 A7 (fun (v1 : Bool) =>
  AT v1
   (some 1)
   (A7 (fun (v7 : Bool) =>
    AT v7
     (some 4)
     ((A4 p0.fVersions p1.fFrom).bind fun v12 =>
     (A4 p0.fVersions p1.fTo).bind fun v13 =>
     (CZ N p1.fOK v12 v13).bind fun v14 =>
     AT ((!v14))
      (some 6)
      (AT ((p1.fKind != 4))
       (AT (((p1.fRewrite.length : Int) != 0))
        (some 6)
        (some 0))
       ((A4 p0.fVersions p1.fFrom).bind fun v18 =>
       (A4 p0.fVersions p1.fFrom).bind fun v19 =>
       (CZ N p1.fRewrite v18 v19).bind fun v20 =>
       AT ((!v20))
        (some 6)
        (BK N p1 (fun (_ : Unit) =>
         some 0) N 0)))))
   fun j7 =>
   AT ((decide (p1.fFrom < 0)))
    (j7 true)
    (AT ((decide ((p0.fVersions.length : Int) ≤ p1.fFrom)))
     (j7 true)
     (AT ((decide (p1.fTo < 0)))
      (j7 true)
      (j7 (decide ((p0.fVersions.length : Int) ≤ p1.fTo)))))))
 fun j1 =>
 AT ((decide (p1.fKind < 1)))
  (j1 true)
  (AT ((decide (4 < p1.fKind)))
   (j1 true)
   (AT p1.fAware
    ((Ba N p1).bind fun v5 =>
    j1 v5)
    (j1 false)))
def Be (N : Nat) (p0 : Ag) (j7 : Unit → Option Int) : Nat → Int → Option Int
 | 0, _ => none
 | n7 + 1, v7 =>
  AT ((decide (v7 < (p0.fVersions.length : Int))))
   ((A4 p0.fVersions v7).bind fun v10 =>
   A7 (fun (v11 : Bool) =>
    AT v11
     (some 7)
     (Be N p0 j7 n7 (wI .i64 (v7 + 1))))
   fun j11 =>
   AT ((decide (v10 < 1)))
    (j11 true)
    (AT ((decide (6 < v10)))
     (j11 true)
     ((A4 p0.fNow v7).bind fun v14 =>
     AT ((decide (v14 < 0)))
      (j11 true)
      ((A4 p0.fNow v7).bind fun v16 =>
      AT ((decide (v10 ≤ v16)))
       (j11 true)
       ((A4 p0.fTarget v7).bind fun v18 =>
       AT ((decide (v18 < 0)))
        (j11 true)
        ((A4 p0.fTarget v7).bind fun v20 =>
        j11 (decide (v10 ≤ v20))))))))
   (j7 ())
def Bc (N : Nat) (p0 : Ag) (j22 : Unit → Option Int) : Nat → Int → Option Int
 | 0, _ => none
 | n22 + 1, v22 =>
  AT ((decide (v22 < (p0.fTables.length : Int))))
   ((A4 p0.fTables v22).bind fun v25 =>
   (DF N p0 v25).bind fun v26 =>
   AT ((v26 != 0))
    (some v26)
    (Bc N p0 j22 n22 (wI .i64 (v22 + 1))))
   (j22 ())
def B8 (N : Nat) (p0 : Ag) : Option Int :=
 A7 (fun (v1 : Bool) =>
  AT v1
   (some 3)
   (A7 (fun (v4 : Bool) =>
    AT v4
     (some 6)
     (Be N p0 (fun (_ : Unit) =>
      Bc N p0 (fun (_ : Unit) =>
       some 0) N 0) N 0))
   fun j4 =>
   AT (((p0.fNow.length : Int) != (p0.fVersions.length : Int)))
    (j4 true)
    (j4 ((p0.fTarget.length : Int) != (p0.fVersions.length : Int)))))
 fun j1 =>
 AT ((decide (6 < (p0.fVersions.length : Int))))
  (j1 true)
  (j1 (decide (12 < (p0.fTables.length : Int))))
def BS (N : Nat) (p0 : Ag) (j3 : ((List Int) × (List Int)) → Option (Ae × Int)) : Nat → ((List Int) × (List Int) × Int) → Option (Ae × Int)
 | 0, _ => none
 | n3 + 1, v3 =>
  AT ((decide (v3.2.2 < (p0.fVersions.length : Int))))
   ((A4 p0.fNow v3.2.2).bind fun v6 =>
   (DB (v3.1.length + (([v6] : List Int)).length ≤ D2)).bind fun _ =>
   (DB (v3.2.1.length + (([(-1)] : List Int)).length ≤ D2)).bind fun _ =>
   BS N p0 j3 n3 (v3.1 ++ (([v6] : List Int)), v3.2.1 ++ (([(-1)] : List Int)), (wI .i64 (v3.2.2 + 1))))
   (j3 (v3.1, v3.2.1))
def Bh (N : Nat) (p0 : Ag) (j9 : ((List Int)) → Option (Ae × Int)) : Nat → ((List Int) × Int) → Option (Ae × Int)
 | 0, _ => none
 | n9 + 1, v9 =>
  AT ((decide (v9.2 < (p0.fTables.length : Int))))
   (A7 (fun (v12 : Int) =>
    (DB (v9.1.length + (([v12] : List Int)).length ≤ D2)).bind fun _ =>
    Bh N p0 j9 n9 (v9.1 ++ (([v12] : List Int)), (wI .i64 (v9.2 + 1))))
   fun j12 =>
   (A4 p0.fTables v9.2).bind fun v13 =>
   (Ba N v13).bind fun v14 =>
   AT v14
    ((A4 p0.fTables v9.2).bind fun v16 =>
    (A4 p0.fNow v16.fFrom).bind fun v17 =>
    (DB (0 ≤ v17)).bind fun _ =>
    j12 (B3 .u8 1 v17))
    (j12 0))
   (j9 v9.1)
def DJ (N : Nat) (p0 : Ag) : Option (Ae × Int) :=
 (B8 N p0).bind fun v1 =>
 AT ((v1 != 0))
  (some ((Ae.mk (([] : List Int)) (([] : List Int)) (([] : List Int))), v1))
  (BS N p0 (fun (v4 : (List Int) × (List Int)) =>
   Bh N p0 (fun (v10 : (List Int)) =>
    some ((Ae.mk v4.1 v4.2 v10), 0)) N (([] : List Int), 0)) N (([] : List Int), ([] : List Int), 0))
def Cn (_ : Nat) (p0 : Ae) (p1 : Int) : Option Int :=
 (A4 p0.fBase p1).bind fun v1 =>
 (DB (0 ≤ v1)).bind fun _ =>
 A7 (fun (v3 : Int) =>
  some v3)
 fun j3 =>
 (A4 p0.fNext p1).bind fun v4 =>
 AT ((decide (0 ≤ v4)))
  ((A4 p0.fNext p1).bind fun v6 =>
  (DB (0 ≤ v6)).bind fun _ =>
  j3 (Ls .u8 ((B3 .u8 1 v1)) ((B3 .u8 1 v6))))
  (j3 (B3 .u8 1 v1))
def BU (N : Nat) (p0 : Ag) (p1 : Ae) (j7 : Unit → Option Int) : Nat → Int → Option Int
 | 0, _ => none
 | n7 + 1, v7 =>
  AT ((decide (v7 < (p0.fVersions.length : Int))))
   (A7 (fun (v10 : Bool) =>
    AT v10
     (some 7)
     ((A4 p1.fBase v7).bind fun v21 =>
     (A4 p1.fNext v7).bind fun v22 =>
     AT ((v21 == v22))
      (some 1)
      (BU N p0 p1 j7 n7 (wI .i64 (v7 + 1)))))
   fun j10 =>
   (A4 p1.fBase v7).bind fun v11 =>
   AT ((decide (v11 < 0)))
    (j10 true)
    ((A4 p1.fBase v7).bind fun v13 =>
    (A4 p0.fVersions v7).bind fun v14 =>
    AT ((decide (v14 ≤ v13)))
     (j10 true)
     ((A4 p1.fNext v7).bind fun v16 =>
     AT ((decide (v16 < (-1))))
      (j10 true)
      ((A4 p1.fNext v7).bind fun v18 =>
      (A4 p0.fVersions v7).bind fun v19 =>
      j10 (decide (v19 ≤ v18))))))
   (j7 ())
def BL (N : Nat) (p0 : Ag) (p1 : Ae) (j24 : Unit → Option Int) : Nat → Int → Option Int
 | 0, _ => none
 | n24 + 1, v24 =>
  AT ((decide (v24 < (p0.fTables.length : Int))))
   ((A4 p0.fTables v24).bind fun v27 =>
   (A4 p0.fVersions v27.fFrom).bind fun v28 =>
   (DB (0 ≤ v28)).bind fun _ =>
   A7 (fun (v30 : Bool) =>
    AT v30
     (some 1)
     (BL N p0 p1 j24 n24 (wI .i64 (v24 + 1))))
   fun j30 =>
   (Ba N v27).bind fun v31 =>
   AT ((!v31))
    ((A4 p1.fHeld v24).bind fun v33 =>
    AT ((v33 != 0))
     (j30 true)
     ((Ba N v27).bind fun v35 =>
     AT v35
      ((A4 p1.fHeld v24).bind fun v37 =>
      AT (((CJ .u8 v37 ((wI .u8 ((B3 .u8 1 v28) - 1)))) != 0))
       (j30 true)
       ((Cn N p1 v27.fFrom).bind fun v39 =>
       (A4 p1.fHeld v24).bind fun v40 =>
       j30 ((CJ .u8 v39 v40) != 0)))
      (j30 false)))
    ((Ba N v27).bind fun v41 =>
    AT v41
     ((A4 p1.fHeld v24).bind fun v43 =>
     AT (((CJ .u8 v43 ((wI .u8 ((B3 .u8 1 v28) - 1)))) != 0))
      (j30 true)
      ((Cn N p1 v27.fFrom).bind fun v45 =>
      (A4 p1.fHeld v24).bind fun v46 =>
      j30 ((CJ .u8 v45 v46) != 0)))
     (j30 false)))
   (j24 ())
def DM (N : Nat) (p0 : Ag) (p1 : Ae) : Option Int :=
 (B8 N p0).bind fun v1 =>
 AT ((v1 != 0))
  (some v1)
  (A7 (fun (v3 : Bool) =>
   AT v3
    (some 6)
    (BU N p0 p1 (fun (_ : Unit) =>
     BL N p0 p1 (fun (_ : Unit) =>
      some 0) N 0) N 0))
  fun j3 =>
  AT (((p1.fBase.length : Int) != (p0.fVersions.length : Int)))
   (j3 true)
   (AT (((p1.fNext.length : Int) != (p0.fVersions.length : Int)))
    (j3 true)
    (j3 ((p1.fHeld.length : Int) != (p0.fTables.length : Int)))))
def DG (_ : Nat) (p0 : Aj) : Option Bool :=
 A7 (fun (v1 : Bool) =>
  some v1)
 fun j1 =>
 AT ((decide (1 ≤ p0.fKind)))
  (AT ((decide (p0.fKind ≤ 4)))
   (AT ((decide (0 ≤ p0.fIndex)))
    (AT ((decide (0 ≤ p0.fVersion)))
     (AT ((p0.fKind == 1))
      (j1 true)
      (j1 (p0.fVersion == 0)))
     (j1 false))
    (j1 false))
   (j1 false))
  (j1 false)
def Dv (_ : Nat) (p0 : Int) (p1 : Int) : Option Bool :=
 (DB (0 ≤ p1)).bind fun _ =>
 some (((EC .u8 ((Dx .u8 p0 p1)) 1) == 1))
def BJ (N : Nat) (p0 : Ag) (p2 : Aj) (j12 : ((List Int)) → Option (Ae × Bool)) : Nat → ((List Int) × Int) → Option (Ae × Bool)
 | 0, _ => none
 | n12 + 1, v12 =>
  AT ((decide (v12.2 < (p0.fTables.length : Int))))
   (A7 (fun (v15 : (List Int)) =>
    BJ N p0 p2 j12 n12 (v15, (wI .i64 (v12.2 + 1))))
   fun j15 =>
   A7 (fun (v16 : Bool) =>
    AT v16
     ((A4 v12.1 v12.2).bind fun v22 =>
     (DB (0 ≤ p2.fVersion)).bind fun _ =>
     (A4 v12.1 v12.2).bind fun _ =>
     j15 (v12.1.set ((v12.2).toNat) ((Ls .u8 v22 ((B3 .u8 1 p2.fVersion))))))
     (j15 v12.1))
   fun j16 =>
   (A4 p0.fTables v12.2).bind fun v17 =>
   AT ((v17.fFrom == p2.fIndex))
    ((A4 p0.fTables v12.2).bind fun v19 =>
    (Ba N v19).bind fun v20 =>
    j16 v20)
    (j16 false))
   (j12 v12.1)
def Bw (N : Nat) (p0 : Ag) (p1 : Ae) (p2 : Aj) (v32 : AO) (v35 : Int) (j38 : Unit → Option (Ae × Bool)) : Nat → Int → Option (Ae × Bool)
 | 0, _ => none
 | n38 + 1, v38 =>
  (A4 p0.fVersions v32.fFrom).bind fun v40 =>
  AT ((decide (v38 < v40)))
   (A7 (fun (v42 : Bool) =>
    A7 (fun (v47 : Bool) =>
     AT v47
      (some ((Ae.mk (([] : List Int)) (([] : List Int)) (([] : List Int))), false))
      (Bw N p0 p1 p2 v32 v35 j38 n38 (wI .i64 (v38 + 1))))
    fun j47 =>
    AT v42
     (AT ((v32.fKind == 4))
      ((A4 v32.fRewrite v38).bind fun v50 =>
      (A4 p1.fBase v32.fFrom).bind fun v51 =>
      (A4 v50 v51).bind fun v52 =>
      j47 (!v52))
      (j47 false))
     (j47 false))
   fun j42 =>
   (A4 p1.fHeld p2.fIndex).bind fun v43 =>
   (Dv N v43 v38).bind fun v44 =>
   AT v44
    ((Dv N v35 v38).bind fun v46 =>
    j42 (!v46))
    (j42 false))
   (j38 ())
def B4 (N : Nat) (p0 : Ag) (p1 : Ae) (p2 : Aj) : Option (Ae × Bool) :=
 (DB ((([] : List Int)).length + p1.fBase.length ≤ D2)).bind fun _ =>
 (DB ((([] : List Int)).length + p1.fNext.length ≤ D2)).bind fun _ =>
 (DB ((([] : List Int)).length + p1.fHeld.length ≤ D2)).bind fun _ =>
 A7 (fun (v4 : (List Int) × (List Int) × (List Int)) =>
  some ((Ae.mk v4.1 v4.2.1 v4.2.2), true))
 fun j4 =>
 AT ((p2.fKind == 1))
  (A7 (fun (v6 : Bool) =>
   AT v6
    (some ((Ae.mk (([] : List Int)) (([] : List Int)) (([] : List Int))), false))
    ((A4 ((([] : List Int)) ++ p1.fNext) p2.fIndex).bind fun _ =>
    BJ N p0 p2 (fun (v13 : (List Int)) =>
     j4 ((([] : List Int)) ++ p1.fBase, ((([] : List Int)) ++ p1.fNext).set ((p2.fIndex).toNat) p2.fVersion, v13)) N ((([] : List Int)) ++ p1.fHeld, 0)))
  fun j6 =>
  (A4 p1.fNext p2.fIndex).bind fun v7 =>
  AT ((decide (0 ≤ v7)))
   (j6 true)
   ((A4 p1.fBase p2.fIndex).bind fun v9 =>
   j6 (p2.fVersion == v9)))
  (AT ((p2.fKind == 2))
   ((A4 p1.fNext p2.fIndex).bind fun v26 =>
   AT ((decide (v26 < 0)))
    (some ((Ae.mk (([] : List Int)) (([] : List Int)) (([] : List Int))), false))
    ((A4 p1.fNext p2.fIndex).bind fun v28 =>
    (A4 ((([] : List Int)) ++ p1.fBase) p2.fIndex).bind fun _ =>
    (A4 ((([] : List Int)) ++ p1.fNext) p2.fIndex).bind fun _ =>
    j4 (((([] : List Int)) ++ p1.fBase).set ((p2.fIndex).toNat) v28, ((([] : List Int)) ++ p1.fNext).set ((p2.fIndex).toNat) ((-1)), (([] : List Int)) ++ p1.fHeld)))
   (AT ((p2.fKind == 3))
    ((A4 p0.fTables p2.fIndex).bind fun v32 =>
    (Ba N v32).bind fun v33 =>
    AT ((!v33))
     (some ((Ae.mk (([] : List Int)) (([] : List Int)) (([] : List Int))), false))
     ((Cn N p1 v32.fFrom).bind fun v35 =>
     (A4 p1.fHeld p2.fIndex).bind fun v36 =>
     AT ((v36 == v35))
      (some ((Ae.mk (([] : List Int)) (([] : List Int)) (([] : List Int))), false))
      (Bw N p0 p1 p2 v32 v35 (fun (_ : Unit) =>
       (A4 ((([] : List Int)) ++ p1.fHeld) p2.fIndex).bind fun _ =>
       j4 ((([] : List Int)) ++ p1.fBase, (([] : List Int)) ++ p1.fNext, ((([] : List Int)) ++ p1.fHeld).set ((p2.fIndex).toNat) v35)) N 0)))
    ((A4 p1.fNext p2.fIndex).bind fun v55 =>
    AT ((decide (v55 < 0)))
     (some ((Ae.mk (([] : List Int)) (([] : List Int)) (([] : List Int))), false))
     ((A4 ((([] : List Int)) ++ p1.fNext) p2.fIndex).bind fun _ =>
     j4 ((([] : List Int)) ++ p1.fBase, ((([] : List Int)) ++ p1.fNext).set ((p2.fIndex).toNat) ((-1)), (([] : List Int)) ++ p1.fHeld)))))
def DH (N : Nat) (p0 : Ag) (p1 : Ae) (p2 : Aj) : Option (Ae × Int) :=
 (DM N p0 p1).bind fun v1 =>
 AT ((v1 != 0))
  (some ((Ae.mk (([] : List Int)) (([] : List Int)) (([] : List Int))), v1))
  ((DG N p2).bind fun v3 =>
  AT ((!v3))
   (some ((Ae.mk (([] : List Int)) (([] : List Int)) (([] : List Int))), 1))
   (A7 (fun (v5 : Bool) =>
    AT v5
     (some ((Ae.mk (([] : List Int)) (([] : List Int)) (([] : List Int))), 4))
     (A7 (fun (v11 : Bool) =>
      AT v11
       (some ((Ae.mk (([] : List Int)) (([] : List Int)) (([] : List Int))), 4))
       ((B4 N p0 p1 p2).bind fun v15 =>
       AT ((!v15.2))
        (some ((Ae.mk (([] : List Int)) (([] : List Int)) (([] : List Int))), 11))
        (some (v15.1, 0))))
     fun j11 =>
     AT ((p2.fKind == 1))
      ((A4 p0.fVersions p2.fIndex).bind fun v13 =>
      j11 (decide (v13 ≤ p2.fVersion)))
      (j11 false)))
   fun j5 =>
   AT ((p2.fKind == 3))
    (AT ((decide ((p0.fTables.length : Int) ≤ p2.fIndex)))
     (j5 true)
     (AT ((p2.fKind != 3))
      (j5 (decide ((p0.fVersions.length : Int) ≤ p2.fIndex)))
      (j5 false)))
    (AT ((p2.fKind != 3))
     (j5 (decide ((p0.fVersions.length : Int) ≤ p2.fIndex)))
     (j5 false))))
def BV (N : Nat) (p0 : Ag) (p1 : Ae) (v1 : (List Aj) × Int) (v4 : (List Aj) × Int) (j7 : ((List Aj)) → Option ((List Aj))) : Nat → ((List Aj) × Int) → Option ((List Aj))
 | 0, _ => none
 | n7 + 1, v7 =>
  AT ((decide (v7.2 < 6)))
   (A7 (fun (v10 : (List Aj)) =>
    BV N p0 p1 v1 v4 j7 n7 (v10, (wI .i64 (v7.2 + 1))))
   fun j10 =>
   (DH N p0 p1 ((Aj.mk v1.2 v4.2 v7.2))).bind fun v11 =>
   AT ((v11.2 == 0))
    ((DB (v7.1.length + (([(Aj.mk v1.2 v4.2 v7.2)] : List Aj)).length ≤ D2)).bind fun _ =>
    j10 (v7.1 ++ (([(Aj.mk v1.2 v4.2 v7.2)] : List Aj))))
    (j10 v7.1))
   (j7 v7.1)
def BW (N : Nat) (p0 : Ag) (p1 : Ae) (v1 : (List Aj) × Int) (j4 : ((List Aj)) → Option ((List Aj))) : Nat → ((List Aj) × Int) → Option ((List Aj))
 | 0, _ => none
 | n4 + 1, v4 =>
  AT ((decide (v4.2 < (Q2 ((p0.fVersions.length : Int)) ((p0.fTables.length : Int))))))
   (BV N p0 p1 v1 v4 (fun (v8 : (List Aj)) =>
    BW N p0 p1 v1 j4 n4 (v8, (wI .i64 (v4.2 + 1)))) N (v4.1, 0))
   (j4 v4.1)
def Bo (N : Nat) (p0 : Ag) (p1 : Ae) (j1 : ((List Aj)) → Option ((List Aj))) : Nat → ((List Aj) × Int) → Option ((List Aj))
 | 0, _ => none
 | n1 + 1, v1 =>
  AT ((decide (v1.2 ≤ 3)))
   (BW N p0 p1 v1 (fun (v5 : (List Aj)) =>
    Bo N p0 p1 j1 n1 (v5, (wI .i64 (v1.2 + 1)))) N (v1.1, 0))
   (j1 v1.1)
def DL (N : Nat) (p0 : Ag) (p1 : Ae) : Option ((List Aj)) :=
 Bo N p0 p1 (fun (v2 : (List Aj)) =>
  some v2) N (([] : List Aj), 1)
def CO (N : Nat) (p0 : Ag) (p3 : Bool) (v1 : (List Int) × (List Int) × (List Int) × (List Aj) × Int) (j5 : ((List Aj)) → Option ((List Aj) × Ae)) : Nat → ((List Aj) × Int) → Option ((List Aj) × Ae)
 | 0, _ => none
 | n5 + 1, v5 =>
  A7 (fun (v7 : Bool) =>
   AT v7
    (A7 (fun (v10 : (List Aj)) =>
     CO N p0 p3 v1 j5 n5 (v10, (wI .i64 (v5.2 + 1))))
    fun j10 =>
    (A4 v1.2.1 v5.2).bind fun v11 =>
    AT ((decide (0 ≤ v11)))
     ((DB (v5.1.length + (([(Aj.mk 4 v5.2 0)] : List Aj)).length ≤ D2)).bind fun _ =>
     j10 (v5.1 ++ (([(Aj.mk 4 v5.2 0)] : List Aj))))
     (j10 v5.1))
    (j5 v5.1))
  fun j7 =>
  AT ((decide (v5.2 < (p0.fVersions.length : Int))))
   (j7 p3)
   (j7 false)
def CI (N : Nat) (p0 : Ag) (p2 : List Int) (p3 : Bool) (j1 : (Ae × (List Aj)) → Option ((List Aj) × Ae)) : Nat → ((List Int) × (List Int) × (List Int) × (List Aj) × Int) → Option ((List Aj) × Ae)
 | 0, _ => none
 | n1 + 1, v1 =>
  AT ((decide (v1.2.2.2.2 < (p2.length : Int))))
   ((DL N p0 ((Ae.mk v1.1 v1.2.1 v1.2.2.1))).bind fun v4 =>
   CO N p0 p3 v1 (fun (v6 : (List Aj)) =>
    AT (((v6.length : Int) == 0))
     (j1 ((Ae.mk v1.1 v1.2.1 v1.2.2.1), v1.2.2.2.1))
     ((A4 p2 v1.2.2.2.2).bind fun v15 =>
     (DB ((v6.length : Int) ≠ 0)).bind fun _ =>
     (A4 v6 ((Int.tmod ((wI .i64 v15)) ((v6.length : Int))))).bind fun v17 =>
     (B4 N p0 ((Ae.mk v1.1 v1.2.1 v1.2.2.1)) v17).bind fun v18 =>
     (DB (v1.2.2.2.1.length + (([v17] : List Aj)).length ≤ D2)).bind fun _ =>
     CI N p0 p2 p3 j1 n1 (v18.1.fBase, v18.1.fNext, v18.1.fHeld, v1.2.2.2.1 ++ (([v17] : List Aj)), (wI .i64 (v1.2.2.2.2 + 1))))) N (v4, 0))
   (j1 ((Ae.mk v1.1 v1.2.1 v1.2.2.1), v1.2.2.2.1))
def DV (N : Nat) (p0 : Ag) (p1 : Ae) (p2 : List Int) (p3 : Bool) : Option ((List Aj) × Ae) :=
 CI N p0 p2 p3 (fun (v2 : Ae × (List Aj)) =>
  some (v2.2, v2.1)) N (p1.fBase, p1.fNext, p1.fHeld, ([] : List Aj), 0)
def D1 (N : Nat) (p0 : Ag) (p1 : List Aj) : Option (Ae × Int × Int) :=
 (DX N p0 p1).bind fun v1 =>
 AT ((v1.2.2 != 0))
  (some ((Ae.mk (([] : List Int)) (([] : List Int)) (([] : List Int))), v1.2.1, v1.2.2))
  ((A4 v1.1 v1.2.1).bind fun v3 =>
  some (v3, v1.2.1, 0))
def CK (N : Nat) (p0 : List Int) (p1 : List Int) (j1 : Unit → Option Int) : Nat → Int → Option Int
 | 0, _ => none
 | n1 + 1, v1 =>
  A7 (fun (v3 : Bool) =>
   AT v3
    ((A4 p0 v1).bind fun v6 =>
    (A4 p1 v1).bind fun v7 =>
    AT ((decide (v6 < v7)))
     (some ((-1)))
     ((A4 p0 v1).bind fun v9 =>
     (A4 p1 v1).bind fun v10 =>
     AT ((decide (v10 < v9)))
      (some 1)
      (CK N p0 p1 j1 n1 (wI .i64 (v1 + 1)))))
    (j1 ()))
  fun j3 =>
  AT ((decide (v1 < (p0.length : Int))))
   (j3 (decide (v1 < (p1.length : Int))))
   (j3 false)
def CS (N : Nat) (p0 : List Int) (p1 : List Int) : Option Int :=
 CK N p0 p1 (fun (_ : Unit) =>
  AT ((decide ((p0.length : Int) < (p1.length : Int))))
   (some ((-1)))
   (AT ((decide ((p1.length : Int) < (p0.length : Int))))
    (some 1)
    (some 0))) N 0
def Cl (N : Nat) (p0 : List Int) (j1 : ((List Int)) → Option ((List Int))) : Nat → ((List Int) × Int) → Option ((List Int))
 | 0, _ => none
 | n1 + 1, v1 =>
  AT ((decide (v1.2 < (p0.length : Int))))
   ((A4 p0 v1.2).bind fun v4 =>
   (DB (v1.1.length + (([(wI .i64 v4)] : List Int)).length ≤ D2)).bind fun _ =>
   Cl N p0 j1 n1 (v1.1 ++ (([(wI .i64 v4)] : List Int)), (wI .i64 (v1.2 + 1))))
   (j1 v1.1)
def CL (N : Nat) (p0 : List Int) : Option ((List Int)) :=
 Cl N p0 (fun (v2 : (List Int)) =>
  some v2) N (([] : List Int), 0)
def Dh (N : Nat) (p0 : Ae) (p1 : Ae) : Option Int :=
 (CS N p0.fBase p1.fBase).bind fun v1 =>
 AT ((v1 != 0))
  (some v1)
  ((CS N p0.fNext p1.fNext).bind fun v3 =>
  AT ((v3 != 0))
   (some v3)
   ((CL N p0.fHeld).bind fun v5 =>
   (CL N p1.fHeld).bind fun v6 =>
   (CS N v5 v6).bind fun v7 =>
   some v7))
def Ci (N : Nat) (p0 : Ae) (p1 : Ae) : Option Bool :=
 (Dh N p0 p1).bind fun v1 =>
 some ((v1 == 0))
def CD (N : Nat) (p0 : List Ae) (p1 : Ae) (j1 : Unit → Option Bool) : Nat → Int → Option Bool
 | 0, _ => none
 | n1 + 1, v1 =>
  AT ((decide (v1 < (p0.length : Int))))
   ((A4 p0 v1).bind fun v4 =>
   (Ci N v4 p1).bind fun v5 =>
   AT v5
    (some true)
    (CD N p0 p1 j1 n1 (wI .i64 (v1 + 1))))
   (j1 ())
def E1 (N : Nat) (p0 : List Ae) (p1 : Ae) : Option Bool :=
 CD N p0 p1 (fun (_ : Unit) =>
  some false) N 0
def A3 (N : Nat) (p2 : List Int) (v12 : Ae × (List Aj) × Int) (j16 : ((List Aj) × (List Aj)) → Option Bool) : Nat → ((List Aj) × (List Aj) × Int) → Option Bool
 | 0, _ => none
 | n16 + 1, v16 =>
  AT ((decide (v16.2.2 < (v12.1.fNext.length : Int))))
   (A7 (fun (v19 : (List Aj) × (List Aj)) =>
    A3 N p2 v12 j16 n16 (v19.1, v19.2, (wI .i64 (v16.2.2 + 1))))
   fun j19 =>
   (A4 v12.1.fNext v16.2.2).bind fun v20 =>
   A7 (fun (v21 : Bool) =>
    AT v21
     ((DB (v16.1.length + (([(Aj.mk 4 v16.2.2 0)] : List Aj)).length ≤ D2)).bind fun _ =>
     (DB (v16.2.1.length + (([(Aj.mk 1 v16.2.2 v20)] : List Aj)).length ≤ D2)).bind fun _ =>
     j19 (v16.1 ++ (([(Aj.mk 4 v16.2.2 0)] : List Aj)), v16.2.1 ++ (([(Aj.mk 1 v16.2.2 v20)] : List Aj))))
     (j19 (v16.1, v16.2.1)))
   fun j21 =>
   AT ((decide (0 ≤ v20)))
    (AT ((decide (v12.2.2 < (p2.length : Int))))
     ((A4 p2 v12.2.2).bind fun v24 =>
     (DB (0 ≤ v16.2.2)).bind fun _ =>
     j21 ((EC .u8 ((Dx .u8 v24 v16.2.2)) 1) == 1))
     (j21 false))
    (j21 false))
   (j16 (v16.1, v16.2.1))
def Bu (N : Nat) (p2 : List Int) (v1 : Ag × Bool) (v9 : (List Aj) × Ae) (j12 : (Ae × (List Aj)) → Option Bool) : Nat → (Ae × (List Aj) × Int) → Option Bool
 | 0, _ => none
 | n12 + 1, v12 =>
  AT ((decide (v12.2.2 < (wI .i64 ((v9.1.length : Int) + 1)))))
   (A7 (fun (v15 : (List Int) × (List Int) × (List Int) × (List Aj)) =>
    Bu N p2 v1 v9 j12 n12 ((Ae.mk v15.1 v15.2.1 v15.2.2.1), v15.2.2.2, (wI .i64 (v12.2.2 + 1))))
   fun j15 =>
   A3 N p2 v12 (fun (v17 : (List Aj) × (List Aj)) =>
    (DB (v17.1.length + v17.2.length ≤ D2)).bind fun _ =>
    AT ((decide (v12.2.2 < (v9.1.length : Int))))
     ((A4 v9.1 v12.2.2).bind fun v31 =>
     (DB ((v17.1 ++ v17.2).length + (([v31] : List Aj)).length ≤ D2)).bind fun _ =>
     (A4 v9.1 v12.2.2).bind fun v33 =>
     (B4 N v1.1 v12.1 v33).bind fun v34 =>
     j15 (v34.1.fBase, v34.1.fNext, v34.1.fHeld, (v17.1 ++ v17.2) ++ (([v31] : List Aj))))
     (j15 (v12.1.fBase, v12.1.fNext, v12.1.fHeld, v17.1 ++ v17.2))) N (v12.2.1, ([] : List Aj), 0))
   (j12 (v12.1, v12.2.1))
def Bv (N : Nat) (v1 : Ag × Bool) (v10 : (List Ae) × Int) (v13 : Ae × (List Aj)) (j35 : ((List Aj)) → Option Bool) : Nat → ((List Aj) × Int) → Option Bool
 | 0, _ => none
 | n35 + 1, v35 =>
  AT ((decide (v35.2 < (wI .i64 ((v13.2.length : Int) + 1)))))
   ((DB ((0 : Int) ≤ v35.2 ∧ 0 ≤ (v35.2).toNat ∧ (v35.2).toNat ≤ v35.1.length)).bind fun _ =>
   (D1 N v1.1 (((v35.1.drop 0).take ((v35.2).toNat - 0)))).bind fun v39 =>
   A7 (fun (v40 : Bool) =>
    AT v40
     (some false)
     (Bv N v1 v10 v13 j35 n35 (v35.1, (wI .i64 (v35.2 + 1)))))
   fun j40 =>
   AT ((v39.2.2 != 0))
    (j40 true)
    (AT ((v39.2.1 != v35.2))
     (j40 true)
     ((E1 N v10.1 v39.1).bind fun v43 =>
     j40 (!v43))))
   (j35 v35.1)
def CF (N : Nat) (p0 : Cd) (p1 : List Int) (p2 : List Int) : Option Bool :=
 (Em N p0).bind fun v1 =>
 A7 (fun (v2 : Bool) =>
  AT v2
   ((DE N).bind fun v7 =>
   some v7)
   ((DJ N v1.1).bind fun v8 =>
   (DV N v1.1 v8.1 p1 false).bind fun v9 =>
   (Ex N v1.1 v9.1).bind fun v10 =>
   AT ((v10.2 != 0))
    (some false)
    (Bu N p2 v1 v9 (fun (v13 : Ae × (List Aj)) =>
     Bv N v1 v10 v13 (fun (v36 : (List Aj)) =>
      (D1 N v1.1 v36).bind fun v45 =>
      A7 (fun (v46 : Bool) =>
       some v46)
      fun j46 =>
      AT ((v45.2.2 == 0))
       ((Ci N v45.1 v13.1).bind fun v48 =>
       j46 v48)
       (j46 false)) N (v13.2, 0)) N (v8.1, ([] : List Aj), 0))))
 fun j2 =>
 (DE N).bind fun v3 =>
 AT ((!v3))
  (j2 true)
  (AT ((!v1.2))
   (j2 true)
   (j2 (decide (8 < (p1.length : Int)))))
def Mq {α : Type} (w : α → Prop) (xs : List α) : Prop := ∀ x, x ∈ xs → w x
def Jp (n : Int) : Prop := (Lit.int .u8 n).wf = true
def UG (n : Int) : Prop := (Lit.int .u16 n).wf = true
def GA (x : GV) : Prop := Jp x.fKind ∧ Jp x.fFrom ∧ Jp x.fTo ∧ (fun _ => True) x.fAware ∧ UG x.fBad ∧ UG x.fLost ∧ True
def E2 (x : Cd) : Prop := (Mq Jp) x.fVersions ∧ (Mq Jp) x.fNow ∧ (Mq Jp) x.fTarget ∧ (Mq GA) x.fLinks ∧ True
end Go.Lift
