/- Lemmas for ReachPlaySaid, which YtfnobkfnohhmmaaGreatFinW7 proves. -/
import Derived.Test.YtfnobkfnohhmmaaGreatLift17
import Derived.ProofKit
/- Functions ar values: what a closure does is a function on trees; how one is made and called. No condition. -/
namespace Go.Lift
open Go.RowKit
variable {P : Program} {X : IC} {ops : Array Oper}
def MJ : Bool × List T → D
 | (true, ts) => .e (.agg (ts.map .pure))
 | (false, ts) => .e (.one (.pure (ts.headD .nil0)))
def RG : Bool × List T → Bool
 | (true, _) => true
 | (false, ts) => match ts with | [_] => true | _ => false
theorem SK {w : World} {S : Nat → Prop} {G : Gh} {v : Value} {x : Bool × List T} (h : F9 P w G v (MJ x)) (hS : ∀ β, G.S β → S β) (hx : RG x = true) : SO w S v x := by
 obtain ⟨b, ts⟩ := x
 cases b with
 | false =>
  match ts, hx with
  | [t], _ => exact ⟨t, rfl, DF.mono (show DF w G.S v t from h) (fun _ _ => rfl) hS⟩
 | true =>
  obtain ⟨vs, e, hs, h⟩ := h
  refine ⟨vs, e, by simpa using hs, fun j t hj => ?_⟩
  have : EF P w G (AC vs j) (.pure t) := h j (.pure t) (by simp [hj])
  exact DF.mono this (fun _ _ => rfl) hS
theorem Qh {w : World} {S : Nat → Prop} {v : Value} {x : Bool × List T} (h : SO w S v x) : F9 P w (G0 S) v (MJ x) := by
 obtain ⟨b, ts⟩ := x
 cases b with
 | false =>
  obtain ⟨t, rfl, h⟩ := h
  exact h
 | true =>
  obtain ⟨vs, e, hs, h⟩ := h
  refine ⟨vs, e, by simpa using hs, fun j c hj => ?_⟩
  rw [List.getElem?_map] at hj
  cases hx : ts[j]? with
  | none => rw [hx] at hj; cases hj
  | some t => rw [hx] at hj; cases hj; exact h j t hx
noncomputable def BJ {α ρ : Type} (ea : α → List (Bool × List T)) (er : ρ → T) (q : α → Option ρ) : List (Bool × List T) → Option T := fun ar =>
 open Classical in if h : ∃ x r, ea x = ar ∧ q x = some r then some (er (Classical.choose (Classical.choose_spec h))) else none
theorem Ib {α ρ : Type} {ea : α → List (Bool × List T)} {er : ρ → T} {q : α → Option ρ} {ar : List (Bool × List T)} {t : T} (h : BJ ea er q ar = some t) : ∃ x r, ar = ea x ∧ q x = some r ∧ t = er r := by
 unfold BJ at h
 split at h
 ·rename_i hx
  cases h
  have := Classical.choose_spec (Classical.choose_spec hx)
  exact ⟨_, _, this.1.symm, this.2, rfl⟩
 ·cases h
theorem DV {α ρ : Type} {ea : α → List (Bool × List T)} {er : ρ → T} {q : α → Option ρ} (inj : ∀ x y, ea x = ea y → x = y) {x : α} {r : ρ} (h : q x = some r) : BJ ea er q (ea x) = some (er r) := by
 have hx : ∃ y s, ea y = ea x ∧ q y = some s := ⟨x, r, rfl, h⟩
 unfold BJ
 rw [dif_pos hx]
 have h1 := Classical.choose_spec (Classical.choose_spec hx)
 have h2 := inj _ _ h1.1
 have h3 : q (Classical.choose hx) = some r := by rw [h2]; exact h
 exact congrArg (fun z => some (er z)) (Option.some.inj (h3.symm.trans h1.2)).symm
structure QF {α β : Type} (f : α → β) : Prop where
 inj : ∀ x y, f x = f y → x = y
def NQ {α : Type} (b : Bool) (e : α → List T) (x : α) : List (Bool × List T) := [(b, e x)]
def DU {α β : Type} (b : Bool) (e : α → List T) (b' : Bool) (e' : β → List T) (x : α × β) : List (Bool × List T) := [(b, e x.1), (b', e' x.2)]
theorem M3 {α : Type} (b : Bool) (e : α → List T) (h : QF e) : ∀ x y, NQ b e x = NQ b e y → x = y := by
 intro x y hxy
 simp only [NQ, List.cons.injEq, Prod.mk.injEq, true_and, and_true] at hxy
 exact h.inj _ _ hxy
theorem Es {α β : Type} (b : Bool) (e : α → List T) (b' : Bool) (e' : β → List T) (h : QF e) (h' : QF e') : ∀ x y, DU b e b' e' x = DU b e b' e' y → x = y := by
 intro x y hxy
 simp only [DU, List.cons.injEq, Prod.mk.injEq, true_and, and_true] at hxy
 exact Prod.ext (h.inj _ _ hxy.1) (h'.inj _ _ hxy.2)
theorem JM {α β : Type} {f : α → β} (h : ∀ x y, f x = f y → x = y) : ∀ (xs ys : List α), xs.map f = ys.map f → xs = ys
 | [], [], _ => rfl
 | [], _ :: _, e => by cases e
 | _ :: _, [], e => by cases e
 | x :: xs, y :: ys, e => by
  simp only [List.map_cons, List.cons.injEq] at e
  rw [h _ _ e.1, JM h _ _ e.2]
theorem Rc {f : FuncId} {g : List (Bool × List T) → Option T} (hf : AG P f = true) (hclo : ∀ ar t, g ar = some t → Az P f (ar.map MJ) [] (one t)) {w : World} {S : Nat → Prop} {v : Value} (h : F9 P w (G0 S) v (.e (.one (.fnc f)))) : F9 P w (G0 S) v (.e (.one (.clo g))) := by
 refine ⟨f, #[], h, ?_, ?_⟩
 ·unfold AG at hf
  split at hf
  ·rename_i fn h0
   simp only [Bool.and_eq_true, Bool.not_eq_true'] at hf
   exact ⟨fn, h0, hf.2, hf.1⟩
  ·cases hf
 ·intro w' S' _ _ hlt vs ar r0 hvs has hgr
  refine (hclo ar r0 hgr w' S' (vs ++ #[]) hlt (by simp [hvs]) ?_).mono ?_
  ·intro j d hj
   rw [List.getElem?_map] at hj
   cases hx0 : ar[j]? with
   | none => rw [hx0] at hj; cases hj
   | some y =>
    rw [hx0] at hj; cases hj
    rw [Array.append_empty]
    exact Qh (has j y hx0)
  ·rintro e w'' ⟨v, G', rfl, hbel, h1, h2, h3, _⟩
   exact ⟨v, G'.S, rfl, hbel, h1, h2, h3⟩
def SU (P : Program) : List D → List D → Prop
 | [], [] => True
 | a :: ar, b :: bs => (∀ (w : World) (S : Nat → Prop) (v : Value), F9 P w (G0 S) v a → F9 P w (G0 S) v b) ∧ SU P ar bs
 | _, _ => False
theorem SU.get : ∀ {ar bs : List D}, SU P ar bs → ar.length = bs.length ∧ ∀ (j : Nat) (b : D), bs[j]? = some b → ∃ a, ar[j]? = some a ∧ ∀ (w : World) (S : Nat → Prop) (v : Value), F9 P w (G0 S) v a → F9 P w (G0 S) v b
 | [], [], _ => ⟨rfl, fun j b h => by simp at h⟩
 | a :: ar, b :: bs, h => by
  obtain ⟨h1, h2⟩ := SU.get h.2
  refine ⟨by simp [h1], fun j c hj => ?_⟩
  cases j with
  | zero => simp at hj; subst hj; exact ⟨a, rfl, h.1⟩
  | succ j => obtain ⟨a', g1, g2⟩ := h2 j c (by simpa using hj); exact ⟨a', by simpa using g1, g2⟩
theorem Az.weak {f : FuncId} {ds ds' : List D} {rv : List (Nat × List (List T))} {res : D} (h : Az P f ds rv res) (hp : SU P ds' ds) : Az P f ds' rv res := by
 intro w S vs hS hlen hargs
 obtain ⟨h1, h2⟩ := hp.get
 refine h w S vs hS (by rw [hlen, h1]) fun j d hj => ?_
 obtain ⟨a, g1, g2⟩ := h2 j d hj
 exact g2 w S _ (hargs j a g1)
section run
variable {dr : Bool} {Q : St → Prop} {r i : Nat} {st : St} {log : List (Nat × CU)} {o : Oper} {gs : List (Operand × D)}
theorem Ot {f : FuncId} (h : AG P f = true) : ∃ fn, P.funcs[f]? = some fn ∧ fn.body.isSome = true ∧ (fn.name == "runtime.NumGoroutine") = false := by
 unfold AG at h
 split at h
 ·rename_i fn hf
  simp only [Bool.and_eq_true, Bool.not_eq_true'] at h
  exact ⟨fn, hf, h.2, h.1⟩
 ·cases h
theorem Lx {f : FuncId} {s : Nat} {xs : List Operand} {capD : List D} (g : List (Bool × List T) → Option T) (hat : At st.env ops i X.n (.makeFunc (.func f) #[] xs.toArray) s gs)
  (hf : AG P f = true) (hl : xs.length = capD.length) (hx : Fk st.env (H4 xs capD)) (hpub : capD.all P5 = true)
  (hclo : ∀ ar t, g ar = some t → Az P f (ar.map MJ ++ capD) [] (one t))
  (next : Bq P X ops dr Q r (i + 1) (CU.upd ⟨gs ++ H4 xs capD, [], some s, some (.e (.one (.clo g))), [], []⟩ st) ((i, ⟨gs ++ H4 xs capD, [], some s, some (.e (.one (.clo g))), [], []⟩) :: log)) : Bq P X ops dr Q (r + 1) i st log := by
 obtain ⟨o, ho, hop, hd, hn, hg, hgp⟩ := hat.out
 refine Bq.step next ⟨Aw.2 ⟨hgp, hx⟩, trivial, trivial⟩ (LR.value ho hg rfl hd.symm (DG hd hn) ?_)
 intro G st a w hs hpre
 have hx := (Aw.1 hpre.r).2
 refine ⟨.func (.func f) #[] (xs.toArray.map a.eval), w, G, ?_, hs, ?_⟩
 ·simp only [execOp, hop]
  exact An (a := .func (.func f) #[] (xs.toArray.map a.eval)) (w1 := w) (by simp [Instr.makeFunc]) rfl
 ·rintro d ⟨⟩
  refine ⟨⟨f, _, rfl, Ot hf, ?_⟩, fun b hb => by cases hb⟩
  intro w' S' hS' hw' hlt vs ar r0 hvs has hgr
  refine (hclo ar r0 hgr w' S' (vs ++ xs.toArray.map a.eval) hlt (by simp [hvs, hl]) ?_).mono ?_
  ·intro j d hj
   by_cases hja : j < ar.length
   ·rw [List.getElem?_append_left (by simpa using hja), List.getElem?_map] at hj
    have hx0 : ar[j]? = some ar[j] := by simp [hja]
    rw [hx0] at hj; cases hj
    rw [C9 (by omega)]
    exact Qh (has j _ hx0)
   ·rw [List.getElem?_append_right (by simp; omega)] at hj
    simp only [List.length_map] at hj
    have hlt' := AM hj
    have hxj : xs[j - ar.length]? = some (xs[j - ar.length]'(by omega)) := by simp [show j - ar.length < xs.length from by omega]
    have hop' := Id hl hx _ _ d hxj hj
    have hcell : AC (vs ++ xs.toArray.map a.eval) j = a.eval (xs[j - ar.length]'(by omega)) := by
     unfold AC
     rw [Array.getElem?_append_right (by omega), hvs]
     simp [show j - ar.length < xs.length from by omega]
    rw [hcell]
    have hcl : d.names = [] := by
     have := List.all_eq_true.1 hpub d (List.mem_of_getElem? hj)
     simpa [P5] using this
    exact ((hs.opd hop').mono (p := fun _ => False) (G' := G0 S') ⟨hS', fun _ h => h.elim, fun _ h => h.elim, fun _ h => h.elim⟩ hw' (fun b hb => by rw [hcl] at hb; cases hb))
  ·rintro e w'' ⟨v, G', rfl, hbel, h1, h2, h3, _⟩
   exact ⟨v, G'.S, rfl, hbel, h1, h2, h3⟩
theorem DW {x : Operand} {g : List (Bool × List T) → Option T} {s : Nat} {xs : List Operand} {ds0 : List D} {ar : List (Bool × List T)} {r0 : T} {ts : Array TypeId} (hat : At st.env ops i X.n (.call ⟨.value x, xs.toArray, ts⟩) s gs)
  (hgx : opd st.env x = some (.e (.one (.clo g)))) (hl : xs.length = ds0.length) (hx : Fk st.env (H4 xs ds0)) (hds : ds0.map D.nrm = ar.map MJ) (hpub : (ar.map MJ).all P5 = true) (hok : ar.all RG = true) (hr : g ar = some r0)
  (next : Bq P X ops dr Q r (i + 1) (CU.upd ⟨gs ++ ((x, .e (.one (.clo g))) :: H4 xs ds0), [], some s, some (one r0), [], []⟩ st) ((i, ⟨gs ++ ((x, .e (.one (.clo g))) :: H4 xs ds0), [], some s, some (one r0), [], []⟩) :: log)) : Bq P X ops dr Q (r + 1) i st log := by
 obtain ⟨o, ho, hop, hd, hn, hg, hgp⟩ := hat.out
 refine Bq.step next ⟨Aw.2 ⟨hgp, hgx, hx⟩, trivial, trivial⟩ ?_
 intro st a w K Q' hs hpre hK
 obtain ⟨G, hs⟩ := hs
 obtain ⟨hgx, hx⟩ := (Aw.1 hpre.r).2
 have hw := hs.wanted hg (Aw.1 hpre.r).1
 unfold wpOp
 rw [ho]
 simp only [hw, if_true]
 refine .inl ?_
 unfold Oper.wp
 obtain ⟨f, caps, hv, ⟨fn, hf1, hf2, hf3⟩, hcall⟩ : Jn P w G.S (a.eval x) g := hs.opd hgx
 have hgood : AG P f = true := by unfold AG; rw [hf1]; simp [hf2]; simpa using hf3
 have hrun : (execOp a.eval o).run P w = .ok (.enter f (xs.toArray.map a.eval ++ caps)) w := by
  simp only [execOp, hop]
  simp only [resolve, hv, Deferred.ofValue]
  refine An (a := { target := .fn (.func f) caps, args := #[] ++ xs.toArray.map a.eval }) (w1 := w) rfl ?_
  simp only [invoke]
  rw [JZ hgood]; simp
 rw [hrun]
 show Calls P f (xs.toArray.map a.eval ++ caps) w _
 have hlen : xs.length = ar.length := by
  have := congrArg List.length hds
  simp at this; omega
 refine (hcall w G.S (fun _ h => h) (fun _ _ => rfl) hs.S_lt (xs.toArray.map a.eval) ar r0 (by simp [hlen]) ?_ hr).mono ?_
 ·intro j y hj
  have hlt := AM hj
  have hd0 : ds0[j]? = some (ds0[j]'(by omega)) := by simp [show j < ds0.length from by omega]
  have hnrm : (ds0[j]'(by omega)).nrm = MJ y := by
   have h1 : (ds0.map D.nrm)[j]? = (ar.map MJ)[j]? := by rw [hds]
   rw [List.getElem?_map, List.getElem?_map, hd0, hj] at h1
   simpa using h1
  have hxj : xs[j]? = some (xs[j]'(by omega)) := by simp [show j < xs.length from by omega]
  have hop' := Id hl hx j _ _ hxj hd0
  have hcell : AC (xs.toArray.map a.eval) j = a.eval (xs[j]'(by omega)) := by simp [AC, show j < xs.length from by omega]
  rw [hcell]
  have hrd := (hs.opd hop').nrm
  rw [hnrm] at hrd
  exact SK hrd (fun _ h => h) (List.all_eq_true.1 hok y (List.mem_of_getElem? hj))
 ·rintro e w' ⟨v, S'', rfl, hbel, hS1, hS2, hres⟩
  show K (a.put o.dst v) w'
  rw [hd]
  let G2 : Gh := { G with S := S'' }
  have hsz := hbel.size
  have hle := hs.below.size
  have key : Dn P X G2 ⟨st.env, Bt st.bx []⟩ a w' := by
   refine hs.frame (fun c hc => hc) ⟨hS1, fun _ _ => rfl, fun _ _ => rfl, fun _ _ => rfl⟩ (fun β hβ => hbel.block β (hs.S_lt β hβ)) ?_ ?_ ?_ ?_ ?_ (hs.below.trans (.of (hbel.mono hle))) (fun _ _ => ⟨rfl, rfl, rfl⟩)
   ·intro c k hc
    exact .inl ⟨hc, fun β hr hβ => hbel.block β (hs.at_ok c k β hc hr hβ).2.1⟩
   ·intro c k β hc hr hβ
    have := hs.at_ok c k β hc hr hβ
    refine ⟨this.1, by omega, fun h => ?_⟩
    rcases hS2 β h with h | h
    ·exact this.2.2 h
    ·omega
   ·intro c c' k k' β hc hc' hr hr' hβ hβ'
    exact hs.at_inj c c' k k' β hc hc' hr hr' hβ hβ'
   ·intro β h
    rcases hS2 β h with h | h
    ·have := hs.S_lt β h; omega
    ·exact h.2
   ·intro β h
    rcases hS2 β h with h | h
    ·exact hs.S_src β h
    ·exact .inr (by omega)
  refine hK _ _ ⟨G2, key.put (some s) (some (one r0)) v (by intro t e; cases e; exact hn) ?_⟩
  rintro d ⟨⟩
  exact ⟨hres, fun b hb => by cases hb⟩
end run
end Go.Lift

/- How a law's given inputs are read as trees: what a datum of plain types (numbers, bools, strings, slices and structs of them) is. No condition. -/
namespace Go.Lift
open Go.RowKit Go.ChangeShapes Go.WideShapes
section
variable {P : Program}
def JO (P : Program) : Nat → List Field → Nat → Bool
 | o, [], n => o == n
 | o, f :: fs, n => f.offset == o && JO P (o + P.cellsOf f.type) fs n
def HQ (P : Program) : Nat → TypeId → Bool
 | 0, _ => false
 | d + 1, t => match P.underlying t with
  | some (.int _) => true
  | some .bool => true
  | some .string => true
  | some (.slice e) => decide (0 < P.cellsOf e) && HQ P d e
  | some (.struct fs) => JO P 0 fs.toList (P.cellsOf t) && fs.toList.all fun f => HQ P d f.type
  | _ => false
def QV (F : TypeId → List T → Prop) : List TypeId → List T → Prop
 | [], ts => ts = []
 | t :: tys, ts => ∃ a b, ts = a ++ b ∧ F t a ∧ QV F tys b
def I2 (P : Program) : Nat → TypeId → List T → Prop
 | 0, _, _ => False
 | d + 1, t, ts => match P.underlying t with
  | some (.int k) => ∃ n, ts = [.val (.int k n)] ∧ (Lit.int k n).wf = true
  | some .bool => ∃ b, ts = [.val (.bool b)]
  | some .string => ∃ s, ts = [.val (.string s)]
  | some (.slice e) => ∃ rows, ts = [.sl rows] ∧ ∀ row, row ∈ rows → I2 P d e row
  | some (.struct fs) => QV (I2 P d) (fs.toList.map (·.type)) ts
  | _ => False
def Hc (w : World) (S : Nat → Prop) : List Value → List T → Prop
 | [], [] => True
 | v :: vs, t :: ts => DF w S v t ∧ Hc w S vs ts
 | _, _ => False
theorem Hc.append {w : World} {S : Nat → Prop} : ∀ {a b : List Value} {x y : List T}, Hc w S a x → Hc w S b y → Hc w S (a ++ b) (x ++ y)
 | [], _, [], _, _, h => h
 | _ :: _, _, _ :: _, _, h1, h2 => ⟨h1.1, Hc.append h1.2 h2⟩
theorem Hc.len {w : World} {S : Nat → Prop} : ∀ {a : List Value} {x : List T}, Hc w S a x → a.length = x.length
 | [], [], _ => rfl
 | _ :: _, _ :: _, h => by simp [h.2.len]
theorem Hc.get {w : World} {S : Nat → Prop} : ∀ {a : List Value} {x : List T}, Hc w S a x → ∀ (j : Nat) (t : T), x[j]? = some t → ∃ v, a[j]? = some v ∧ DF w S v t
 | [], [], _, j, t, hj => by simp at hj
 | v :: _, _ :: _, h, 0, t, hj => by simp at hj; subst hj; exact ⟨v, rfl, h.1⟩
 | _ :: _, _ :: _, h, j + 1, t, hj => by
  obtain ⟨v, h1, h2⟩ := h.2.get j t (by simpa using hj)
  exact ⟨v, by simpa using h1, h2⟩
theorem KD {α : Type} {p : Nat → α → Prop} : ∀ (n : Nat), (∀ i, i < n → ∃ x, p i x) → ∃ l : List α, l.length = n ∧ ∀ i x, l[i]? = some x → p i x
 | 0, _ => ⟨[], rfl, fun i x h => by simp at h⟩
 | n + 1, h => by
  obtain ⟨l, h1, h2⟩ := KD n (fun i hi => h i (by omega))
  obtain ⟨x, hx⟩ := h n (by omega)
  refine ⟨l ++ [x], by simp [h1], fun i y hi => ?_⟩
  by_cases hlt : i < l.length
  ·rw [List.getElem?_append_left hlt] at hi; exact h2 i y hi
  ·rw [List.getElem?_append_right (by omega)] at hi
   have : i - l.length = 0 := by
    have := AM hi
    simp at this; omega
   rw [this] at hi
   simp at hi; subst hi
   have : i = n := by omega
   subst this; exact hx
theorem IP {α : Type} {f : Nat → Option α} : ∀ {n : Nat} {l : List α}, (List.range n).mapM f = some l → l.length = n ∧ ∀ i, i < n → f i = l[i]? := by
 intro n l h
 have h1 := mapM_some_length h
 refine ⟨by simpa using h1, fun i hi => ?_⟩
 exact mapM_some_get h i i (by simp [hi])
theorem NS {w : World} {b o : Nat} {v : Value} (h : w.cell? ⟨b, o, none⟩ = some v) : ∃ arr el fz, w.heap[b]? = some (.cells arr el fz) ∧ arr[o]? = some v := by
 unfold World.cell? at h
 split at h
 ·rename_i c el fz hc
  exact ⟨c, el, fz, hc, by simpa using h⟩
 ·cases h
theorem Rd {w : World} {b : Nat} {o : Obj} (h : w.heap[b]? = some o) : b < w.heap.size := by
 rcases Nat.lt_or_ge b w.heap.size with h1 | h1
 ·exact h1
 ·rw [Array.getElem?_eq_none h1] at h; cases h
abbrev Pt (w : World) : Nat → Prop := fun β => β < w.heap.size
theorem MA {H : Type} {enc : TypeId × Value → H} {w : World} {sp : Nat → Bool} {held : Bool} {n d : Nat} {cs : List Value}
  (ih : ∀ (t : TypeId) (cs : List Value) (x : DataW H × List MemPlace), HQ P d t = true → DataW.trod enc P w 0 sp held n t cs = some x → ∃ ts, Hc w (Pt w) cs ts ∧ I2 P d t ts) :
  ∀ (fs : List Field) (o : Nat), JO P o fs cs.length = true → (fs.all fun f => HQ P d f.type) = true →
   (∀ f, f ∈ fs → ∃ x, DataW.trod enc P w 0 sp held n f.type ((cs.drop f.offset).take (P.cellsOf f.type)) = some x) →
   ∃ ts, Hc w (Pt w) (cs.drop o) ts ∧ QV (I2 P d) (fs.map (·.type)) ts
 | [], o, hc, _, _ => by
  simp only [JO, beq_iff_eq] at hc
  refine ⟨[], ?_, rfl⟩
  rw [List.drop_eq_nil_of_le (by omega)]; trivial
 | f :: fs, o, hc, hp, hx => by
  simp only [JO, Bool.and_eq_true, beq_iff_eq] at hc
  simp only [List.all_cons, Bool.and_eq_true] at hp
  obtain ⟨x, hx0⟩ := hx f (by simp)
  rw [hc.1] at hx0
  obtain ⟨ts, h1, h2⟩ := ih _ _ _ hp.1 hx0
  obtain ⟨us, h3, h4⟩ := MA ih fs _ hc.2 hp.2 (fun g hg => hx g (by simp [hg]))
  refine ⟨ts ++ us, ?_, ⟨ts, us, rfl, h2, h4⟩⟩
  have : cs.drop o = (cs.drop o).take (P.cellsOf f.type) ++ cs.drop (o + P.cellsOf f.type) := by
   rw [← List.drop_drop, List.take_append_drop]
  rw [this]
  exact h1.append h3
theorem MH {H : Type} {enc : TypeId × Value → H} {w : World} {sp : Nat → Bool} {held : Bool} : ∀ (d fuel : Nat) (t : TypeId) (cs : List Value) (x : DataW H × List MemPlace), HQ P d t = true → DataW.trod enc P w 0 sp held fuel t cs = some x → ∃ ts, Hc w (Pt w) cs ts ∧ I2 P d t ts
 | 0, _, _, _, _, hp, _ => by cases hp
 | d + 1, fuel, t, cs, x, hp, hx => by
  unfold HQ at hp
  unfold I2
  split at hp
  ·rename_i k hu
   obtain ⟨n, rfl, _, hw⟩ := DataW.trod_int hu hx
   exact ⟨[.val (.int k n)], ⟨.val _ rfl, trivial⟩, n, rfl, hw⟩
  ·rename_i hu
   obtain ⟨b, rfl, _⟩ := DataW.trod_bool hu hx
   exact ⟨[.val (.bool b)], ⟨.val _ rfl, trivial⟩, b, rfl⟩
  ·rename_i hu
   obtain ⟨b, rfl, _⟩ := DataW.trod_string hu hx
   exact ⟨[.val (.string b)], ⟨.val _ rfl, trivial⟩, b, rfl⟩
  ·rename_i e hu
   simp only [Bool.and_eq_true, decide_eq_true_eq] at hp
   rcases DataW.trod_slice hu hx with ⟨rfl, _⟩ | ⟨a, len, cap, elems, rest, n, rfl, rfl, _, _, hl, _, hlen, hel, _, _⟩
   ·exact ⟨[.sl []], ⟨.nil none 0, trivial⟩, [], rfl, fun row h => by cases h⟩
   ·have hrow : ∀ i, i < len → ∃ row, ∃ csi, w.cells? 0 (a.add (i * P.cellsOf e)) (P.cellsOf e) = some csi ∧ Hc w (Pt w) csi row ∧ I2 P d e row := by
     intro i hi
     have h1 := hel i hi
     have h2 : elems[i]? = some (elems[i]'(by omega)) := by simp [show i < elems.length from by omega]
     rw [h2] at h1
     obtain ⟨csi, h3, h4⟩ := Option.bind_eq_some_iff.1 h1
     obtain ⟨row, h5, h6⟩ := MH d n e csi _ hp.2 h4
     exact ⟨row, csi, h3, h5, h6⟩
    obtain ⟨rows, hrl, hrows⟩ := KD len hrow
    subst hrl
    refine ⟨[.sl rows], ⟨?_, trivial⟩, rows, rfl, fun row hm => ?_⟩
    ·cases hr0 : rows with
     | nil => exact .nil _ _
     | cons r0 rs0 =>
      rw [← hr0]
      have hpos : 0 < rows.length := by rw [hr0]; simp
      -- each cell
      have hcell : ∀ (i : Nat) (row : List T) (j : Nat) (u : T), rows[i]? = some row → row[j]? = some u → j < P.cellsOf e ∧ ∃ v, w.cell? ((a.add (i * P.cellsOf e)).add j) = some v ∧ DF w (Pt w) v u := by
       intro i row j u hi hj
       obtain ⟨csi, h1, h2, _⟩ := hrows i row hi
       obtain ⟨v, h3, h4⟩ := h2.get j u hj
       unfold World.cells? at h1
       rw [if_pos (Nat.zero_le _)] at h1
       obtain ⟨h5, h6⟩ := IP h1
       have hjl : j < P.cellsOf e := by have := AM h3; omega
       exact ⟨hjl, v, by rw [h6 j hjl, h3], h4⟩
      have hrlen : ∀ (i : Nat) (row : List T), rows[i]? = some row → row.length = P.cellsOf e := by
       intro i row hi
       obtain ⟨csi, h1, h2, _⟩ := hrows i row hi
       unfold World.cells? at h1
       rw [if_pos (Nat.zero_le _)] at h1
       obtain ⟨h5, _⟩ := IP h1
       rw [← h2.len, h5]
      have hget : ∀ i (hi : i < rows.length), rows[i]? = some (rows[i]'hi) := fun i hi => by simp [hi]
      have hr00 := hget 0 hpos
      have hl0 := hrlen 0 _ hr00
      obtain ⟨_, v0, hv0, _⟩ := hcell 0 _ 0 ((rows[0]'hpos)[0]'(by omega)) hr00 (by simp)
      have hadd0 : (a.add (0 * P.cellsOf e)).add 0 = a := by simp [Addr.add]
      rw [hadd0] at hv0
      have hspot := World.cell?_spot hv0
      obtain ⟨β, off, spot⟩ := a
      simp only at hspot
      subst hspot
      obtain ⟨arr, el, fz, hb, _⟩ := NS hv0
      have hadd : ∀ i j : Nat, ((⟨β, off, none⟩ : Addr).add (i * P.cellsOf e)).add j = ⟨β, off + i * P.cellsOf e + j, none⟩ := by
       intro i j
       unfold Addr.add
       split
       ·rename_i h1
        split
        ·rename_i h2; rw [h2]; simp
        ·rename_i h2; simp only [Addr.mk.injEq, true_and, and_true]; omega
       ·split <;> simp_all <;> omega
      have hat : ∀ (i : Nat) (row : List T) (j : Nat) (u : T), rows[i]? = some row → row[j]? = some u → off + i * P.cellsOf e + j < arr.size ∧ DF w (Pt w) (AC arr (off + i * P.cellsOf e + j)) u := by
       intro i row j u hi hj
       obtain ⟨_, v, h1, h2⟩ := hcell i row j u hi hj
       rw [hadd] at h1
       obtain ⟨arr', el', fz', h3, h4⟩ := NS h1
       rw [hb] at h3; cases h3
       have hlt : off + i * P.cellsOf e + j < arr.size := by
        rcases Nat.lt_or_ge (off + i * P.cellsOf e + j) arr.size with h | h
        ·exact h
        ·rw [Array.getElem?_eq_none h] at h4; cases h4
       refine ⟨hlt, ?_⟩
       have : AC arr (off + i * P.cellsOf e + j) = v := by unfold AC; rw [h4]; rfl
       rw [this]; exact h2
      refine .sl β off cap (P.cellsOf e) arr el fz rows (Rd hb) hb hl ?_ hrlen (fun i row j u hi hj => (hat i row j u hi hj).2)
      have hil := hget (rows.length - 1) (by omega)
      have hll := hrlen _ _ hil
      have h7 := (hat (rows.length - 1) _ (P.cellsOf e - 1) ((rows[rows.length - 1]'(by omega))[P.cellsOf e - 1]'(by omega)) hil (by simp)).1
      have h8 : rows.length * P.cellsOf e = (rows.length - 1) * P.cellsOf e + P.cellsOf e := by
       rw [← Nat.succ_mul]; congr 1; omega
      omega
    ·obtain ⟨i, hi⟩ := List.mem_iff_getElem?.1 hm
     obtain ⟨_, _, _, h⟩ := hrows i row hi
     exact h
  ·rename_i fs hu
   simp only [Bool.and_eq_true] at hp
   obtain ⟨xs, n, rfl, _, hcl, hxl, hf⟩ := DataW.trod_struct hu hx
   have := MA (enc := enc) (sp := sp) (held := held) (cs := cs) (fun t cs x h1 h2 => MH d n t cs x h1 h2) fs.toList 0 (by rw [hcl]; exact hp.1) hp.2 (fun f hm => by
    obtain ⟨i, hi⟩ := List.mem_iff_getElem?.1 hm
    have hi' : fs[i]? = some f := by simpa using hi
    have h1 := hf i f hi'
    have hlt : i < fs.size := by
     have := AM hi
     simpa using this
    exact ⟨xs[i]'(by omega), by rw [h1]; simp [show i < xs.length from by omega]⟩)
   simpa using this
  ·cases hp
end
end Go.Lift

/- From a contract on trees to a law's own statement. No condition. -/
namespace Go.Lift
open Go.RowKit Go.ChangeShapes Go.WideShapes
section
variable {P : Program}
def Ry (P : Program) (t : TypeId) (us : List T) : D := match P.underlying t with
 | some (.struct _) => .e (.agg (us.map .pure))
 | _ => .e (.one (.pure (us.headD .nil0)))
def It (P : Program) (d : Nat) : List TypeId → List D → Prop
 | [], [] => True
 | t :: ts, x :: xs => (∃ us, I2 P d t us ∧ x = Ry P t us) ∧ It P d ts xs
 | _, _ => False
theorem Sz {H : Type} {enc : TypeId × Value → H} {w : World} {d base : Nat} {t : TypeId} {v : Value} {x : DataW H} {ps : List MemPlace} (hp : HQ P d t = true) (hval : Value.okWide P w .any base t v) (h : DataW.Trod enc P w 0 (fun _ => true) true t v x ps) :
  ∃ us, I2 P d t us ∧ F9 P w (G0 (Pt w)) v (Ry P t us) := by
 obtain ⟨fuel, hf⟩ := h
 obtain ⟨us, h1, h2⟩ := MH d fuel t _ _ hp hf
 refine ⟨us, h2, ?_⟩
 have single : ∀ (v : Value), v.cells.toList = [v] → Hc w (Pt w) v.cells.toList us → F9 P w (G0 (Pt w)) v (.e (.one (.pure (us.headD .nil0)))) := by
  intro v hv hr
  rw [hv] at hr
  match us, hr with
  | [u], hr => exact hr.1
 unfold Ry
 cases d with
 | zero => cases hp
 | succ d =>
  unfold HQ at hp
  split at hp
  ·rename_i k hu
   rw [hu]
   obtain ⟨n, rfl⟩ := okWide_int hu hval
   exact single _ rfl h1
  ·rename_i hu
   rw [hu]
   obtain ⟨n, rfl⟩ := okWide_bool hu hval
   exact single _ rfl h1
  ·rename_i hu
   rw [hu]
   obtain ⟨n, rfl⟩ := okWide_string hu hval
   exact single _ rfl h1
  ·rename_i e hu
   rw [hu]
   obtain ⟨a, len, cap, rfl⟩ := okWide_slice hu hval
   exact single _ rfl h1
  ·rename_i fs hu
   rw [hu]
   simp only [Value.okWide, hu] at hval
   obtain ⟨cs, rfl, _, _⟩ := hval
   have h1 : Hc w (Pt w) cs.toList us := h1
   refine ⟨cs, rfl, by simpa using h1.len, fun j c hj => ?_⟩
   rw [List.getElem?_map] at hj
   cases hx : us[j]? with
   | none => rw [hx] at hj; cases hj
   | some u =>
    rw [hx] at hj; cases hj
    obtain ⟨v, h3, h4⟩ := h1.get j u hx
    have : AC cs j = v := by unfold AC; rw [show cs[j]? = some v from by simpa using h3]; rfl
    rw [this]; exact h4
  ·cases hp
theorem O0 {H : Type} {enc : TypeId × Value → H} {w : World} {d base : Nat} : ∀ {ts : List TypeId} {vs : List Value} {ds : List (DataW H)} {ps : List MemPlace}, (ts.all (HQ P d)) = true → (∀ (j : Nat) t v, ts[j]? = some t → vs[j]? = some v → Value.okWide P w .any base t v) →
  DataW.TrodAll enc P w 0 (fun _ => true) true ts vs ds ps → ∃ Ds, It P d ts Ds ∧ vs.length = Ds.length ∧ ds.length = ts.length ∧ ∀ (j : Nat) (x : D), Ds[j]? = some x → ∃ v, vs[j]? = some v ∧ F9 P w (G0 (Pt w)) v x
 | [], [], [], _, _, _, _ => ⟨[], trivial, rfl, rfl, fun j x h => by simp at h⟩
 | t :: ts, v :: vs, x :: xs, _, hp, hval, h => by
  obtain ⟨p, q, h1, h2, _⟩ := h
  simp only [List.all_cons, Bool.and_eq_true] at hp
  obtain ⟨us, h3, h4⟩ := Sz hp.1 (hval 0 t v rfl rfl) h1
  obtain ⟨Ds, h5, h6, h7, h8⟩ := O0 hp.2 (fun j t v hj hv => hval (j + 1) t v (by simpa using hj) (by simpa using hv)) h2
  refine ⟨Ry P t us :: Ds, ⟨⟨us, h3, rfl⟩, h5⟩, by simp [h6], by simp [h7], fun j y hj => ?_⟩
  cases j with
  | zero => simp at hj; subst hj; exact ⟨v, rfl, h4⟩
  | succ j =>
   obtain ⟨v', g1, g2⟩ := h8 j y (by simpa using hj)
   exact ⟨v', by simpa using g1, g2⟩
 | [], [], _ :: _, _, _, _, h => h.elim
 | [], _ :: _, _, _, _, _, h => by cases ‹List (DataW H)› <;> exact h.elim
 | _ :: _, [], _, _, _, _, h => by cases ‹List (DataW H)› <;> exact h.elim
 | _ :: _, _ :: _, [], _, _, _, h => h.elim
theorem Jo {H : Type} {enc : TypeId × Value → H} (hl : laidOutB P = true) {W W' : World} (hb : Below W.heap.size W W') : ∀ {ts : List TypeId} {vs : List Value} {ds : List (DataW H)} {ps : List MemPlace}, (ts.all fun t => P.readableRec t && decide (t < P.types.size)) = true →
  DataW.TrodAll enc P W 0 (fun _ => true) true ts vs ds ps → (∀ x ∈ ps, x.block < W.heap.size) → DataW.TrodAll enc P W' 0 (fun b => decide (b < W.heap.size)) true ts vs ds ps
 | [], [], [], _, _, h, _ => h
 | t :: ts, v :: vs, x :: xs, _, hr, h, hlt => by
  obtain ⟨p, q, h1, h2, rfl⟩ := h
  simp only [List.all_cons, Bool.and_eq_true, decide_eq_true_eq] at hr
  refine ⟨p, q, Below.trod hl hr.1.1 hr.1.2 h1 hb (fun y hy => hlt y (by simp [hy])), Jo hl hb (by simpa using hr.2) h2 (fun y hy => hlt y (by simp [hy])), rfl⟩
 | [], [], _ :: _, _, _, h, _ => h.elim
 | [], _ :: _, _, _, _, h, _ => by cases ‹List (DataW H)› <;> exact h.elim
 | _ :: _, [], _, _, _, h, _ => by cases ‹List (DataW H)› <;> exact h.elim
 | _ :: _, _ :: _, [], _, _, h, _ => h.elim
theorem Om {H : Type} {enc : TypeId × Value → H} {C : Checked} {os : Os} {f : FuncId} {fn : Func} {s : ChangeSpec} {conds : List PathCond} {tb : TypeId} {d : Nat}
  (own : ownKnob C.prog.godebug = none) (started : os.Started) (noInit : C.prog.inits.idxOf? f = none) (hfn : C.prog.funcs[f]? = some fn)
  (witness : ∃ (w : World) (tape : Tape) (i : Input), w.os = os ∧ (w.forCall tape i).Shaped C.prog ∧ i.vars = [] ∧ Input.okWide C.prog (w.forCall tape i) .any w.heap.size f i ∧
   s.pre6 enc C.prog fn conds false (w.forCall tape i).memory i.args ∧ ({} : Assume).holds C.prog (lone (Frame.enter C.prog f i.args .normal) [] (w.forCall tape i)))
  (hv : s.vars = []) (hs : ∀ ds : List (DataW H), ds.length = fn.params.toList.length → s.fn H (ds ++ []) = { results := [.lit (.bool true)], args := ds })
  (hres : fn.resultTypes = #[tb]) (htb : C.prog.underlying tb = some .bool) (hl : laidOutB C.prog = true)
  (hread : (fn.params.toList.all fun t => C.prog.readableRec t && decide (t < C.prog.types.size)) = true) (hplain : (fn.params.toList.all (HQ C.prog d)) = true)
  (law : ∀ Ds, It C.prog d fn.params.toList Ds → Az C.prog f Ds [] (.e (.one (.pure (.val (.bool true)))))) :
  ReturnsInHanded {} C os f .any (s.pre6 enc C.prog fn conds false) (s.post enc C.prog fn false true false false) := by
 refine returnsInHanded_of_change own started noInit hfn witness ?_
 intro W base args ds gs before hval hW _ _
 have hW' := hW
 obtain ⟨p, q, hA, hV, rfl, _, _⟩ := hW
 rw [hv] at hV
 obtain ⟨rfl, rfl⟩ := trodVars_none hV
 obtain ⟨Ds, h1, h2, h3, h4⟩ := O0 hplain (fun j t v hj hvj => hval j t v (by simpa using hj) (by simpa using hvj)) hA
 have hlt : ∀ x ∈ p, x.block < W.heap.size := fun x hx => hW'.lt x (by simp [hx])
 refine (law Ds h1 W (Pt W) args (fun β h => h) (by simpa using h2) ?_).mono ?_
 ·intro j x hj
  obtain ⟨v, g1, g2⟩ := h4 j x hj
  have : AC args j = v := by unfold AC; rw [show args[j]? = some v from by simpa using g1]; rfl
  rw [this]; exact g2
 ·rintro e W' ⟨v, G', rfl, hb, _, _, hr, _⟩
  have hvb : v = .bool true := by
   have h5 : DF W' G'.S v (.val (.bool true)) := hr
   cases h5; rfl
  subst hvb
  refine ⟨_, rfl, ds, [], p ++ [], [], p, [], hW', ?_, ?_, ?_, hb.frame _, fun h => by cases h⟩
  ·rw [hs ds h3, hres]
   exact trodAll_mk1 (shut_bool htb true)
  ·rw [hs ds h3]
   exact Jo hl hb hread hA hlt
  ·rw [hs ds h3, hv]
   rfl
end
end Go.Lift

/- Trees of plain types as typed values. No condition. -/
namespace Go.Lift
open Go.RowKit
section
variable {P : Program}
def Or {α : Type} (P : Program) (t : TypeId) (e : α → List T) (W : α → Prop) : Prop := ∀ (d : Nat) (ts : List T), I2 P d t ts → ∃ x, ts = e x ∧ W x
theorem Ni {t : TypeId} {k : IntKind} {e : Int → List T} (h : Lw P t k = true) (he : ∀ n, e n = [.val (.int k n)]) : Or P t e (fun n => (Lit.int k n).wf = true) := by
 intro d ts hf
 cases d with
 | zero => exact hf.elim
 | succ d =>
  unfold Lw at h
  unfold I2 at hf
  split at h
  ·rename_i k' hu
   rw [hu] at hf
   obtain ⟨n, rfl, hw⟩ := hf
   have : k' = k := by simpa using h
   subst this
   exact ⟨n, (he n).symm, hw⟩
  ·cases h
theorem PT {t : TypeId} {e : Bool → List T} (h : RF P t = true) (he : ∀ n, e n = [.val (.bool n)]) : Or P t e (fun _ => True) := by
 intro d ts hf
 cases d with
 | zero => exact hf.elim
 | succ d =>
  unfold RF at h
  unfold I2 at hf
  split at h
  ·rename_i hu
   rw [hu] at hf
   obtain ⟨n, rfl⟩ := hf
   exact ⟨n, (he n).symm, trivial⟩
  ·cases h
theorem LG {α : Type} {e : α → List T} {W : α → Prop} : ∀ (rows : List (List T)), (∀ row, row ∈ rows → ∃ x, row = e x ∧ W x) → ∃ xs : List α, rows = xs.map e ∧ ∀ x, x ∈ xs → W x
 | [], _ => ⟨[], rfl, fun x h => by cases h⟩
 | r :: rows, h => by
  obtain ⟨x, rfl, hx⟩ := h r (by simp)
  obtain ⟨xs, rfl, hxs⟩ := LG rows (fun row hr => h row (by simp [hr]))
  exact ⟨x :: xs, rfl, fun y hy => by
   rcases List.mem_cons.1 hy with e | e
   ·subst e; exact hx
   ·exact hxs y e⟩
theorem Kq {α : Type} {t el : TypeId} {e : α → List T} {W : α → Prop} {e2 : List α → List T} (h : sliceB P t el = true) (he : Or P el e W) (h2 : ∀ xs, e2 xs = [.sl (xs.map e)]) : Or P t e2 (fun xs => ∀ x, x ∈ xs → W x) := by
 intro d ts hf
 cases d with
 | zero => exact hf.elim
 | succ d =>
  unfold sliceB at h
  unfold I2 at hf
  split at h
  ·rename_i e' hu
   rw [hu] at hf
   obtain ⟨rows, rfl, hr⟩ := hf
   have : e' = el := by simpa using h
   subst this
   obtain ⟨xs, rfl, hxs⟩ := LG rows (fun row hm => he d row (hr row hm))
   exact ⟨xs, (h2 xs).symm, hxs⟩
  ·cases h
def Gn (P : Program) (t : TypeId) : Option (List TypeId) := match P.underlying t with | some (.struct fs) => some (fs.toList.map (·.type)) | _ => none
theorem Jq {t : TypeId} {tys : List TypeId} (h : Gn P t = some tys) {d : Nat} {ts : List T} (hf : I2 P d t ts) : ∃ d', QV (I2 P d') tys ts := by
 cases d with
 | zero => exact hf.elim
 | succ d =>
  unfold Gn at h
  unfold I2 at hf
  split at h
  ·rename_i fs hu
   cases h
   rw [hu] at hf
   exact ⟨d, hf⟩
  ·cases h
theorem OD {t : TypeId} {tys : List TypeId} (h : Gn P t = some tys) (us : List T) : Ry P t us = .e (.agg (us.map .pure)) := by
 unfold Gn at h
 unfold Ry
 revert h
 cases P.underlying t with
 | none => intro h; cases h
 | some k => cases k <;> intro h <;> first | rfl | cases h
theorem Q8 {t : TypeId} (h : Gn P t = none) (us : List T) : Ry P t us = .e (.one (.pure (us.headD .nil0))) := by
 unfold Gn at h
 unfold Ry
 revert h
 cases P.underlying t with
 | none => intro _; rfl
 | some k => cases k <;> intro h <;> first | rfl | cases h
theorem JU {d : Nat} {t : TypeId} {ts : List TypeId} {Ds : List D} (h : It P d (t :: ts) Ds) : ∃ us xs, Ds = Ry P t us :: xs ∧ I2 P d t us ∧ It P d ts xs := by
 cases Ds with
 | nil => exact h.elim
 | cons x xs => obtain ⟨⟨us, h1, rfl⟩, h2⟩ := h; exact ⟨us, xs, rfl, h1, h2⟩
theorem NI {d : Nat} {Ds : List D} (h : It P d [] Ds) : Ds = [] := by
 cases Ds with
 | nil => rfl
 | cons x xs => exact h.elim
end
end Go.Lift

/- Contracts of functions that write into blocks that they are lent, and that give back blocks of any kind. No condition. -/
namespace Go.Lift
open Go.RowKit
variable {P : Program} {X : IC} {ops : Array Oper}
instance : Inhabited By := ⟨.gone⟩
def Hl (n m b : Nat) : Bool := if BW b then Nat.blt (b - 90000) n else Nat.blt b m
def O3 (G : Gh) (n : Nat) (β : Nat) : Prop := ∃ k, k < n ∧ G.has (90000 + k) β
theorem GD {k : Nat} (h : k < 1000) : BW (90000 + k) = true := by
 unfold BW
 rw [Nat.ble_eq_true_of_le (by omega), Nat.ble_eq_true_of_le (by omega)]; rfl
theorem Im {b : Nat} (h : BW b = true) : ∃ k, k < 1000 ∧ b = 90000 + k := by
 unfold BW at h
 rw [Bool.and_eq_true] at h
 have h1 := Nat.le_of_ble_eq_true h.1
 have h2 := Nat.le_of_ble_eq_true h.2
 exact ⟨b - 90000, by omega, by omega⟩
def Bv (P : Program) (f : FuncId) (args : List D) (lent : List (By × By)) (rv : List By) (res : D) : Prop :=
 ∀ (w : World) (G : Gh) (vs : Array Value), (∀ β, G.S β → β < w.heap.size) →
  (∀ (k : Nat) (x : By × By), lent[k]? = some x → E6 P w G (90000 + k) x.1) →
  (∀ k β, k < lent.length → G.has (90000 + k) β → β < w.heap.size ∧ ¬ G.S β) →
  (∀ k l β, k < lent.length → l < lent.length → G.has (90000 + k) β → G.has (90000 + l) β → k = l) →
  vs.size = args.length → (∀ (j : Nat) (d : D), args[j]? = some d → F9 P w G (AC vs j) d) →
  Calls P f vs w fun e w' => ∃ v G', e = .returned v ∧ Dh (O3 G lent.length) w.heap.size w w' ∧ (∀ β, G.S β → G'.S β) ∧ (∀ β, G'.S β → G.S β ∨ (w.heap.size ≤ β ∧ β < w'.heap.size)) ∧ F9 P w' G' v res ∧
   (∀ (k : Nat) (x : By × By), lent[k]? = some x → E6 P w' G' (90000 + k) x.2) ∧
   (∀ (k : Nat) (x : By), rv[k]? = some x → E6 P w' G' k x) ∧
   (∀ k, k < lent.length → G'.loc (90000 + k) = G.loc (90000 + k) ∧ G'.hd (90000 + k) = G.hd (90000 + k) ∧ G'.more (90000 + k) = G.more (90000 + k)) ∧
   (∀ k β, k < lent.length → G'.has (90000 + k) β → ¬ G'.S β) ∧
   (∀ k β, k < rv.length → G'.has k β → w.heap.size ≤ β ∧ β < w'.heap.size ∧ ¬ G'.S β) ∧
   (∀ k l β, k < rv.length → l < rv.length → G'.has k β → G'.has l β → k = l)
def Mt (args : List D) (lent : List (By × By)) : St := ⟨fun s => args[s]?, fun b => if BW b then (lent[b - 90000]?).map (·.1) else none⟩
def MF (bx : Nat → Option By) (f : Nat → Nat) : Nat → List (By × By) → Prop
 | _, [] => True
 | k, x :: xs => bx (90000 + k) = some (x.2.ren f) ∧ MF bx f (k + 1) xs
def Oo (bx : Nat → Option By) (f : Nat → Nat) : Nat → List By → Prop
 | _, [] => True
 | k, x :: xs => bx (1000 + k) = some (x.ren f) ∧ Oo bx f (k + 1) xs
theorem KH {bx : Nat → Option By} {f : Nat → Nat} : ∀ {l : List (By × By)} {m : Nat}, MF bx f m l → ∀ (k : Nat) (x : By × By), l[k]? = some x → bx (90000 + (m + k)) = some (x.2.ren f)
 | y :: rv, m, h, 0, x, hk => by simp at hk; subst hk; exact h.1
 | y :: rv, m, h, k + 1, x, hk => by
  have := KH h.2 k x (by simpa using hk)
  rwa [show m + 1 + k = m + (k + 1) from by omega] at this
theorem Le {bx : Nat → Option By} {f : Nat → Nat} : ∀ {l : List By} {m : Nat}, Oo bx f m l → ∀ (k : Nat) (x : By), l[k]? = some x → bx (1000 + (m + k)) = some (x.ren f)
 | y :: rv, m, h, 0, x, hk => by simp at hk; subst hk; exact h.1
 | y :: rv, m, h, k + 1, x, hk => by
  have := Le h.2 k x (by simpa using hk)
  rwa [show m + 1 + k = m + (k + 1) from by omega] at this
def Ja (b : Nat) : Nat := if BW b then b else 1000 + b
structure Qx (P : Program) (rs : List ResultVar) (st : St) (lent : List (By × By)) (rv : List By) (res : D) : Prop where
 r : ∃ xs, T4 P st rs xs ∧ TY xs = res.ren Ja
 l : MF st.bx Ja 0 lent
 v : Oo st.bx Ja 0 rv
def Is (n m : Nat) (l : List Nat) : Bool := l.all (Hl n m)
theorem Bn {f n : Nat} {fn : Func} {c : Code} {args : List D} {lent : List (By × By)} {rv : List By} {res : D} {rs : List ResultVar} (hf : P.funcs[f]? = some fn) (hb : fn.body = some c) (hn : fn.ntmps = n) (hrs : fn.results.toList = rs) (hl : args.length ≤ n) (hn9 : n ≤ 90000)
  (hargs : (args.all fun d => Is lent.length 0 d.names) = true) (hpre : (lent.all fun x => Is lent.length 0 x.1.names && x.1.real && x.2.real) = true) (hll : lent.length ≤ 1000) (hrl : (rv.all fun x => x.real) = true) (hrn : rv.length ≤ 1000)
  (h : ∀ (w0 : World) (S0 : Nat → Prop) (GL : Gh), W P ⟨w0, S0, n, GL⟩ c (fun e st => match e with | .normal | .ret => Qx P rs st lent rv res | _ => False) (Mt args lent)) : Bv P f args lent rv res := by
 subst hn; subst hrs
 intro w G vs hS hlb hla hli hlen hrd
 refine calls_of_wp hf hb ?_
 have hcell : ∀ j, j < args.length → AC (vs ++ Array.replicate (fn.ntmps - vs.size) undef) j = AC vs j := fun j hj => C9 (by omega)
 -- the ghost that knows of what is lent alone
 let dom : Nat → Prop := fun b => BW b = true ∧ b - 90000 < lent.length
 have hdec : ∀ b, Decidable (dom b) := fun b => inferInstanceAs (Decidable (_ ∧ _))
 let GL : Gh := { S := G.S, loc := fun b => if dom b then G.loc b else none, hd := fun b => if dom b then G.hd b else undef, more := fun b => if dom b then G.more b else fun _ => False }
 have hext : G.ext GL dom := ⟨fun _ h => h, fun b hb => if_pos hb, fun b hb => if_pos hb, fun b hb => if_pos hb⟩
 have hdomk : ∀ k, k < lent.length → dom (90000 + k) := fun k hk => ⟨GD (by omega), by omega⟩
 have hin : ∀ b, Hl lent.length 0 b = true → dom b := by
  intro b hb
  unfold Hl at hb
  split at hb
  ·rename_i hl; exact ⟨hl, by rwa [Nat.blt_eq] at hb⟩
  ·simp [Nat.blt] at hb
 have hhas : ∀ b β, GL.has b β → dom b ∧ G.has b β := by
  intro b β hb
  by_cases hd : dom b
  ·exact ⟨hd, (hext.has hd).1 hb⟩
  ·exfalso
   unfold Gh.has at hb
   simp only [GL] at hb
   rw [if_neg hd, if_neg hd] at hb
   rcases hb with h | h
   ·cases h
   ·exact h
 have hlent : ∀ β, GL.lent β ↔ O3 G lent.length β := by
  intro β
  constructor
  ·rintro ⟨b, hb, hb2⟩
   obtain ⟨hd, hg⟩ := hhas b β hb2
   obtain ⟨k, _, rfl⟩ := Im hb
   exact ⟨k, by have := hd.2; omega, hg⟩
  ·rintro ⟨k, hk, hg⟩
   exact ⟨90000 + k, GD (by omega), (hext.has (hdomk k hk)).2 hg⟩
 have hbx : ∀ b k, (Mt args lent).bx b = some k → dom b ∧ ∃ x, lent[b - 90000]? = some x ∧ x.1 = k := by
  intro b k hk
  simp only [Mt] at hk
  split at hk
  ·rename_i hb
   cases hx : lent[b - 90000]? with
   | none => rw [hx] at hk; cases hk
   | some x => rw [hx] at hk; cases hk; exact ⟨⟨hb, AM hx⟩, x, rfl, rfl⟩
  ·cases hk
 have hdn : ∀ b, dom b → ((Mt args lent).bx b).isSome = true := by
  intro b hb
  simp only [Mt]
  rw [if_pos hb.1]
  simp [hb.2]
 have hpre' : ∀ x, x ∈ lent → Is lent.length 0 x.1.names = true ∧ x.1.real = true ∧ x.2.real = true := fun x hx => by
  have := List.all_eq_true.1 hpre x hx
  rw [Bool.and_eq_true, Bool.and_eq_true] at this
  exact ⟨this.1.1, this.1.2, this.2⟩
 have hbk : ∀ b, dom b → b = 90000 + (b - 90000) := fun b hb => by obtain ⟨k, _, e⟩ := Im hb.1; omega
 have hinit : Dn P ⟨w, G.S, fn.ntmps, GL⟩ GL (Mt args lent) { tmps := vs ++ Array.replicate (fn.ntmps - vs.size) undef, defers := [] } w := by
  refine { S_lt := hS, S_src := fun β h => .inl h, S_0 := fun β h => h, S0_lt := hS, tsz := by simp; omega, defers := rfl, below := Dh.refl _ _ _, nlt := hn9, lent := fun _ _ => ⟨rfl, rfl, rfl⟩, blk := ?_, at_ok := ?_, at_inj := ?_, env := ?_, live := ?_, liveB := ?_ }
  ·intro b k hk
   obtain ⟨hd, x, hx, rfl⟩ := hbx b k hk
   have h1 := hlb _ x hx
   rw [← hbk b hd] at h1
   exact h1.mono hext hd (fun _ _ => rfl) (fun _ _ _ => rfl) fun c hc => hin c (List.all_eq_true.1 (hpre' x (List.mem_of_getElem? hx)).1 c hc)
  ·intro b k β hk hr hβ
   obtain ⟨hd, hg⟩ := hhas b β hβ
   rw [hbk b hd] at hg
   have := hla _ β hd.2 hg
   exact ⟨⟨fun h3 => (by rw [hd.1] at h3; cases h3), .inr ⟨b, hd.1, hβ⟩⟩, this.1, this.2⟩
  ·intro b c k l β hk hl hr hr' hβ hβ'
   obtain ⟨hd, hg⟩ := hhas b β hβ
   obtain ⟨hd', hg'⟩ := hhas c β hβ'
   rw [hbk b hd] at hg
   rw [hbk c hd'] at hg'
   have := hli _ _ β hd.2 hd'.2 hg hg'
   rw [hbk b hd, hbk c hd', this]
  ·intro s d hs
   have hs' : args[s]? = some d := hs
   rw [hcell s (AM hs')]
   exact (hrd s d hs').mono hext (fun _ _ => rfl) fun b hb => hin b (List.all_eq_true.1 (List.all_eq_true.1 hargs d (List.mem_of_getElem? hs')) b hb)
  ·intro s d hs b hb
   have hs' : args[s]? = some d := hs
   exact hdn b (hin b (List.all_eq_true.1 (List.all_eq_true.1 hargs d (List.mem_of_getElem? hs')) b hb))
  ·intro b k hk c hc
   obtain ⟨hd, x, hx, rfl⟩ := hbx b k hk
   exact hdn c (hin c (List.all_eq_true.1 (hpre' x (List.mem_of_getElem? hx)).1 c hc))
 refine wp_mono (h w G.S GL _ w ⟨_, hinit⟩) ?_
 rintro e a' w' ⟨st', hq, G2, hs⟩
 have key : Qx P fn.results.toList st' lent rv res → a'.defers = [] ∧ ∃ v, (results fn a'.tmps).run P w' = .ok v w' ∧ ∃ v' G', Ending.returned v = .returned v' ∧ Dh (O3 G lent.length) w.heap.size w w' ∧ (∀ β, G.S β → G'.S β) ∧ (∀ β, G'.S β → G.S β ∨ (w.heap.size ≤ β ∧ β < w'.heap.size)) ∧ F9 P w' G' v' res ∧
   (∀ (k : Nat) (x : By × By), lent[k]? = some x → E6 P w' G' (90000 + k) x.2) ∧
   (∀ (k : Nat) (x : By), rv[k]? = some x → E6 P w' G' k x) ∧
   (∀ k, k < lent.length → G'.loc (90000 + k) = G.loc (90000 + k) ∧ G'.hd (90000 + k) = G.hd (90000 + k) ∧ G'.more (90000 + k) = G.more (90000 + k)) ∧
   (∀ k β, k < lent.length → G'.has (90000 + k) β → ¬ G'.S β) ∧
   (∀ k β, k < rv.length → G'.has k β → w.heap.size ≤ β ∧ β < w'.heap.size ∧ ¬ G'.S β) ∧
   (∀ k l β, k < rv.length → l < rv.length → G'.has k β → G'.has l β → k = l) := by
  rintro ⟨⟨xs, hr1, hr2⟩, hlp, hv⟩
  obtain ⟨us, h1, h2, h3⟩ := hs.rrs hr1
  have hoL : ∀ k, k < lent.length → Ja (90000 + k) = 90000 + k := fun k hk => by unfold Ja; rw [GD (by omega)]; rfl
  have hoN : ∀ k, k < rv.length → Ja k = 1000 + k := fun k hk => by unfold Ja; rw [H7 (show k < 1000 by omega) (by omega)]; rfl
  have hbl : ∀ (k : Nat) (x : By × By), lent[k]? = some x → st'.bx (90000 + k) = some (x.2.ren Ja) := fun k x hk => by
   have := KH hlp k x hk
   rwa [Nat.zero_add] at this
  have hbv : ∀ (k : Nat) (x : By), rv[k]? = some x → st'.bx (1000 + k) = some (x.ren Ja) := fun k x hk => by
   have := Le hv k x hk
   rwa [Nat.zero_add] at this
  have hreal : ∀ (k : Nat) (x : By), rv[k]? = some x → (x.ren Ja).real = true := fun k x hk => by
   rw [H8]; exact List.all_eq_true.1 hrl x (List.mem_of_getElem? hk)
  have hgl : ∀ k, k < lent.length → G2.loc (90000 + k) = G.loc (90000 + k) ∧ G2.hd (90000 + k) = G.hd (90000 + k) ∧ G2.more (90000 + k) = G.more (90000 + k) := fun k hk => by
   obtain ⟨e1, e2, e3⟩ := hs.lent (90000 + k) (GD (by omega))
   exact ⟨e1.trans (hext.loc _ (hdomk k hk)), e2.trans (hext.hd _ (hdomk k hk)), e3.trans (hext.more _ (hdomk k hk))⟩
  refine ⟨hs.defers, (if h : us.toArray.size = 1 then us.toArray[0] else .tuple us.toArray), ?_, _, { S := G2.S, loc := fun b => G2.loc (Ja b), hd := fun b => G2.hd (Ja b), more := fun b => G2.more (Ja b) }, rfl, ?_, hs.S_0, ?_, ?_, ?_, ?_, ?_, ?_, ?_, ?_⟩
  ·unfold results
   refine An (a := us.toArray) (w1 := w') ?_ rfl
   rw [Array.mapM_eq_mapM_toList]
   simp only [Sem.run_map]
   exact congrArg (fun r => Result.andThen r fun a w' => Result.ok a.toArray w') h1
  ·have hb := hs.below
   exact ⟨hb.os, hb.tape, hb.output, hb.size, fun k hk hl => hb.block k hk fun h => hl ((hlent k).1 h)⟩
  ·intro β hβ
   rcases hs.S_src β hβ with h | h
   ·exact .inl h
   ·exact .inr ⟨h, hs.S_lt β hβ⟩
  ·refine Iz (f := Ja) ?_
   rw [← hr2]
   match xs, us, h2 with
   | [], [], _ => exact ⟨#[], rfl, rfl, fun j x h => by simp at h⟩
   | [x], [u], _ => exact h3 0 u x rfl rfl
   | x :: y :: xs, u :: u' :: us, hl2 =>
    refine ⟨(u :: u' :: us).toArray, by simp, by simpa using hl2, fun j z hj => ?_⟩
    have hlt := AM hj
    have hu : (u :: u' :: us)[j]? = some ((u :: u' :: us)[j]'(by rw [hl2]; exact hlt)) := by rw [List.getElem?_eq_getElem]
    have := h3 j _ z hu hj
    have hc : AC (u :: u' :: us).toArray j = (u :: u' :: us)[j]'(by rw [hl2]; exact hlt) := by
     unfold AC
     rw [List.getElem?_toArray, hu]; rfl
    rw [hc]; exact this
  ·intro k x hk
   refine In (f := Ja) ?_
   rw [hoL k (AM hk)]
   exact hs.blk _ _ (hbl k x hk)
  ·intro k x hk
   refine In (f := Ja) ?_
   rw [hoN k (AM hk)]
   exact hs.blk _ _ (hbv k x hk)
  ·intro k hk
   simp only [hoL k hk]
   exact hgl k hk
  ·intro k β hk hβ
   have hx : lent[k]? = some lent[k] := by simp [hk]
   have hβ : G2.has (90000 + k) β := by
    unfold Gh.has at hβ ⊢
    simp only [hoL k hk] at hβ
    exact hβ
   exact (hs.at_ok _ _ β (hbl k _ hx) (by rw [H8]; exact (hpre' _ (List.mem_of_getElem? hx)).2.2) hβ).2.2
  ·intro k β hk hβ
   have hx : rv[k]? = some rv[k] := by simp [hk]
   have hβ : G2.has (1000 + k) β := by
    unfold Gh.has at hβ ⊢
    simp only [hoN k hk] at hβ
    exact hβ
   have := hs.at_ok _ _ β (hbv k _ hx) (hreal k _ hx) hβ
   exact ⟨this.1.1 (H7 (show 1000 + k < 3000 by omega) (by omega)), this.2⟩
  ·intro k l β hk hl hβ hβ'
   have hx : rv[k]? = some rv[k] := by simp [hk]
   have hx' : rv[l]? = some rv[l] := by simp [hl]
   have hβ : G2.has (1000 + k) β := by
    unfold Gh.has at hβ ⊢
    simp only [hoN k hk] at hβ
    exact hβ
   have hβ' : G2.has (1000 + l) β := by
    unfold Gh.has at hβ' ⊢
    simp only [hoN l hl] at hβ'
    exact hβ'
   have := hs.at_inj _ _ _ _ β (hbv k _ hx) (hbv l _ hx') (hreal k _ hx) (hreal l _ hx') hβ hβ'
   omega
 cases e with
 | normal => exact key hq
 | ret => exact key hq
 | _ => exact hq.elim
def nu (ls ns : List Nat) (b : Nat) : Nat := if BW b then ls.getD (b - 90000) 0 else ns.getD b 0
def Mv (f : Nat → Nat) : List Nat → List (By × By) → List (Nat × By)
 | l :: ls, x :: xs => (l, x.1.ren f) :: Mv f ls xs
 | _, _ => []
def HK (f : Nat → Nat) : List Nat → List (By × By) → List Bool → List (Nat × By) → List (Nat × By)
 | l :: ls, x :: xs, c :: cs, r => if c then (l, x.2.ren f) :: HK f ls xs cs r else HK f ls xs cs r
 | _, _, _, r => r
def newB (f : Nat → Nat) : List Nat → List By → List (Nat × By)
 | n :: ns, x :: xs => (n, x.ren f) :: newB f ns xs
 | _, _ => []
def PX : List (By × By) → List Bool → Prop
 | x :: xs, c :: cs => (c = false → x.1 = x.2) ∧ PX xs cs
 | [], [] => True
 | _, _ => False
theorem Mm {f : Nat → Nat} {bx : Nat → Option By} : ∀ {ls : List Nat} {lent : List (By × By)}, ls.length = lent.length → GX bx (Mv f ls lent) → ∀ (k : Nat) (x : By × By), lent[k]? = some x → bx (nm ls k) = some (x.1.ren f)
 | [], [], _, _, k, y, hk => by simp at hk
 | l :: ls, x :: xs, hl, h, 0, y, hk => by simp at hk; subst hk; exact h.1
 | l :: ls, x :: xs, hl, h, k + 1, y, hk => by
  have := Mm (ls := ls) (lent := xs) (by simpa using hl) h.2 k y (by simpa using hk)
  simpa [nm] using this
theorem Ma {f : Nat → Nat} {bx : Nat → Option By} {r : List (Nat × By)} : ∀ {ls : List Nat} {lent : List (By × By)} {ch : List Bool}, ls.length = lent.length → ls.Nodup → PX lent ch → (∀ c, c ∈ ls → Bt bx r c = bx c) → GX bx (Mv f ls lent) →
  (∀ c, c ∉ ls → Bt bx (HK f ls lent ch r) c = Bt bx r c) ∧ ∀ (k : Nat) (x : By × By), lent[k]? = some x → Bt bx (HK f ls lent ch r) (nm ls k) = some (x.2.ren f)
 | [], [], [], _, _, _, _, _ => ⟨fun _ _ => rfl, fun k x h => by simp at h⟩
 | [], [], _ :: _, _, _, h, _, _ => h.elim
 | l :: ls, x :: xs, [], hl, hnd, hc, hr, hp => by cases hc
 | l :: ls, x :: xs, c :: cs, hl, hnd, hc, hr, hp => by
  have ih := Ma (f := f) (bx := bx) (r := r) (ls := ls) (lent := xs) (ch := cs) (by simpa using hl) (List.nodup_cons.1 hnd).2 hc.2 (fun c hc => hr c (by simp [hc])) hp.2
  have hln : l ∉ ls := (List.nodup_cons.1 hnd).1
  have hl0 : Bt bx (HK f ls xs cs r) l = bx l := (ih.1 l hln).trans (hr l (by simp))
  refine ⟨fun d hd => ?_, fun k y hk => ?_⟩
  ·simp only [List.mem_cons, not_or] at hd
   simp only [HK]
   split
   ·simp only [Bt]; rw [if_neg hd.1]; exact ih.1 d hd.2
   ·exact ih.1 d hd.2
  ·cases k with
   | zero =>
    simp at hk; subst hk
    simp only [HK, nm, List.getD_cons_zero]
    split
    ·simp [Bt]
    ·rename_i hcc
     have hcf : c = false := by simpa using hcc
     rw [hl0, hp.1, hc.1 hcf]
   | succ k =>
    have hk' : xs[k]? = some y := by simpa using hk
    have hlt := AM hk'
    have hlt2 : k < ls.length := by simp at hl; omega
    have e : nm (l :: ls) (k + 1) = nm ls k := by simp [nm]
    rw [e]
    have hne : nm ls k ≠ l := fun h => hln (h ▸ EL hlt2)
    simp only [HK]
    split
    ·simp only [Bt]; rw [if_neg hne]; exact ih.2 k y hk'
    ·exact ih.2 k y hk'
theorem LC {f : Nat → Nat} {bx : Nat → Option By} : ∀ {ns : List Nat} {rv : List By} {c : Nat}, ns.length = rv.length → ns.Nodup →
  (c ∉ ns → Bt bx (newB f ns rv) c = bx c) ∧ ∀ (k : Nat) (x : By), rv[k]? = some x → Bt bx (newB f ns rv) (nm ns k) = some (x.ren f)
 | [], [], c, _, _ => ⟨fun _ => rfl, fun k x h => by simp at h⟩
 | n :: ns, x :: xs, c, hl, hnd => by
  have ih := LC (f := f) (bx := bx) (ns := ns) (rv := xs) (c := c) (by simpa using hl) (List.nodup_cons.1 hnd).2
  refine ⟨fun hc => ?_, fun k y hk => ?_⟩
  ·simp only [List.mem_cons, not_or] at hc
   simp only [newB, Bt]
   rw [if_neg hc.1]; exact ih.1 hc.2
  ·cases k with
   | zero => simp at hk; subst hk; simp [newB, Bt, nm]
   | succ k =>
    have hk' : xs[k]? = some y := by simpa using hk
    have hlt := AM hk'
    have hlt2 : k < ns.length := by simp at hl; omega
    have : nm (n :: ns) (k + 1) = nm ns k := by simp [nm]
    rw [this]
    have hne : nm ns k ≠ n := fun e => (List.nodup_cons.1 hnd).1 (e ▸ EL hlt2)
    simp only [newB, Bt]
    rw [if_neg hne]
    exact (LC (f := f) (bx := bx) (ns := ns) (rv := xs) (c := c) (by simpa using hl) (List.nodup_cons.1 hnd).2).2 k y hk'
theorem Gb {ls ns : List Nat} {k : Nat} (h : k < 1000) : nu ls ns (90000 + k) = nm ls k := by
 unfold nu nm; rw [GD h, if_pos rfl, show 90000 + k - 90000 = k from by omega]
theorem Kr {ls ns : List Nat} {k : Nat} (h : k < 90000) : nu ls ns k = nm ns k := by
 unfold nu nm; rw [H7 h (Nat.le_refl _), if_neg (by simp)]
theorem Ly {bx : Nat → Option By} {c : Nat} : ∀ {wb : List (Nat × By)}, (bx c).isSome = true → (Bt bx wb c).isSome = true
 | [], h => h
 | p :: ps, h => by
  simp only [Bt]; split
  ·rfl
  ·exact Ly h
section run
variable {dr : Bool} {Q : St → Prop} {r i : Nat} {st : St} {log : List (Nat × CU)} {o : Oper} {gs : List (Operand × D)}
theorem CM {f s : Nat} {xs : List Operand} {ds0 ds : List D} {lent : List (By × By)} {rv : List By} {res : D} {ts : Array TypeId} (ls ns : List Nat) (ch : List Bool) (hc : Bv P f ds lent rv res) (hat : At st.env ops i X.n (.call ⟨.value (.func f), xs.toArray, ts⟩) s gs)
  (hf : AG P f = true) (hl : xs.length = ds0.length) (hx : Fk st.env (H4 xs ds0)) (hds : ds0.map D.nrm = ds.map (D.ren (nu ls ns)))
  (hll : ls.length = lent.length) (hln : ls.Nodup) (hlb : GX st.bx (Mv (nu ls ns) ls lent)) (hns : ns.length = rv.length) (hndl : Ll ns) (hnew : La st.bx ns) (hch : PX lent ch)
  (hlim : (Nat.ble lent.length 1000 && Nat.ble rv.length 1000) = true) (hre : (lent.all fun x => x.1.real && x.2.real) = true)
  (hnm : (Is lent.length rv.length res.names && (lent.all fun x => Is lent.length rv.length x.2.names) && rv.all fun x => Is lent.length rv.length x.names) = true)
  (next : Bq P X ops dr Q r (i + 1) (CU.upd ⟨gs ++ H4 xs ds0, Mv (nu ls ns) ls lent, some s, some (res.ren (nu ls ns)), HK (nu ls ns) ls lent ch (newB (nu ls ns) ns rv), ns⟩ st) ((i, ⟨gs ++ H4 xs ds0, Mv (nu ls ns) ls lent, some s, some (res.ren (nu ls ns)), HK (nu ls ns) ls lent ch (newB (nu ls ns) ns rv), ns⟩) :: log)) : Bq P X ops dr Q (r + 1) i st log := by
 obtain ⟨o, ho, hop, hd, hn, hg, hgp⟩ := hat.out
 have hnd := hndl.1
 rw [Bool.and_eq_true] at hlim
 have hlim1 := Nat.le_of_ble_eq_true hlim.1
 have hlim2 := Nat.le_of_ble_eq_true hlim.2
 rw [Bool.and_eq_true, Bool.and_eq_true] at hnm
 obtain ⟨⟨hnmR, hnmL⟩, hnmV⟩ := hnm
 have hre' : ∀ x, x ∈ lent → x.1.real = true ∧ x.2.real = true := fun x hx => by
  have := List.all_eq_true.1 hre x hx
  rw [Bool.and_eq_true] at this
  exact this
 refine Bq.step next ⟨Aw.2 ⟨hgp, hx⟩, hlb, hnew⟩ ?_
 intro st a w K Q' hs hpre hK
 obtain ⟨G, hs⟩ := hs
 have hx := (Aw.1 hpre.r).2
 have hw := hs.wanted hg (Aw.1 hpre.r).1
 have hnew := hpre.n
 have hlb := hpre.b
 have hnew' : ∀ c, c ∈ ns → st.bx c = none := by
  have : ∀ {l : List Nat}, La st.bx l → ∀ c, c ∈ l → st.bx c = none := by
   intro l
   induction l with
   | nil => intro _ c hc; cases hc
   | cons b l ih =>
    intro h c hc
    rcases List.mem_cons.1 hc with e | e
    ·subst e; exact h.1
    ·exact ih h.2 c e
  exact this hnew
 have hget := fun k x hk => Mm (f := nu ls ns) hll hlb k x hk
 have hlk : ∀ k, k < lent.length → st.bx (nm ls k) = some (lent[k]!.1.ren (nu ls ns)) ∧ (lent[k]!.1.ren (nu ls ns)).real = true := fun k hk => by
  have hx0 : lent[k]? = some lent[k]! := by simp [hk]
  exact ⟨hget k _ hx0, by rw [H8]; exact (hre' _ (List.mem_of_getElem? hx0)).1⟩
 have hlsns : ∀ c, c ∈ ls → c ∉ ns := fun c hc hm => by
  obtain ⟨k, hk, e⟩ := Ln hc
  have := (hlk k (by omega)).1
  rw [e, hnew' c hm] at this; cases this
 unfold wpOp
 rw [ho]
 simp only [hw, if_true]
 refine .inl ?_
 unfold Oper.wp
 have hrun : (execOp a.eval o).run P w = .ok (.enter f (xs.toArray.map a.eval)) w := by
  simp only [execOp, hop]
  exact Hp hf rfl
 rw [hrun]
 show Calls P f (xs.toArray.map a.eval) w _
 let Gc : Gh := { S := G.S, loc := fun b => G.loc (nu ls ns b), hd := fun b => G.hd (nu ls ns b), more := fun b => G.more (nu ls ns b) }
 have hGc : ∀ k β, k < lent.length → (Gc.has (90000 + k) β ↔ G.has (nm ls k) β) := fun k β hk => by
  unfold Gh.has; simp only [Gc]; rw [Gb (by omega)]
 refine (hc w Gc (xs.toArray.map a.eval) hs.S_lt ?_ ?_ ?_ ?_ ?_).mono ?_
 ·intro k x hk
  refine In (f := nu ls ns) ?_
  rw [Gb (by have := AM hk; omega)]
  exact hs.blk _ _ (hget k x hk)
 ·intro k β hk hβ
  have h1 := hlk k hk
  exact (hs.at_ok _ _ β h1.1 h1.2 ((hGc k β hk).1 hβ)).2
 ·intro k l β hk hl' hβ hβ'
  have h1 := hlk k hk
  have h2 := hlk l hl'
  have := hs.at_inj _ _ _ _ β h1.1 h2.1 h1.2 h2.2 ((hGc k β hk).1 hβ) ((hGc l β hl').1 hβ')
  exact MY hln (by omega) (by omega) this
 ·have h1 := congrArg List.length hds
  simp at h1
  simp; omega
 ·intro j d hj
  have hj2 : (ds.map (D.ren (nu ls ns)))[j]? = some (d.ren (nu ls ns)) := by rw [List.getElem?_map, hj]; rfl
  rw [← hds, List.getElem?_map] at hj2
  obtain ⟨d0, hj0, hd0⟩ : ∃ d0, ds0[j]? = some d0 ∧ d0.nrm = d.ren (nu ls ns) := by
   cases hx0 : ds0[j]? with
   | none => rw [hx0] at hj2; cases hj2
   | some d0 => rw [hx0] at hj2; exact ⟨d0, rfl, by simpa using hj2⟩
  have hlt := AM hj0
  have hxj : xs[j]? = some (xs[j]'(by omega)) := by simp [show j < xs.length from by omega]
  have hop' := Id hl hx j _ d0 hxj hj0
  have hcell : AC (xs.toArray.map a.eval) j = a.eval (xs[j]'(by omega)) := by simp [AC, show j < xs.length from by omega]
  rw [hcell]
  refine Iz (f := nu ls ns) ?_
  rw [← hd0]
  exact (hs.opd hop').nrm
 ·rintro e w' ⟨v, G', rfl, hbel, hS1, hS2, hres', hpost, hvec, hsame, hlS, hvat, hvinj⟩
  show K (a.put o.dst v) w'
  rw [hd]
  let G2 : Gh := { S := G'.S, loc := fun c => if c ∈ ns then G'.loc (ns.idxOf c) else G.loc c, hd := fun c => if c ∈ ns then G'.hd (ns.idxOf c) else G.hd c, more := fun c => if c ∈ ns then G'.more (ns.idxOf c) else G.more c }
  have hidx : ∀ k, k < ns.length → ns.idxOf (nm ns k) = k := by
   intro k hk
   have hm := EL hk
   have h1 : ns.idxOf (nm ns k) < ns.length := List.idxOf_lt_length_of_mem hm
   refine MY hnd h1 hk ?_
   have h2 := List.getElem_idxOf h1
   show ns.getD (ns.idxOf (nm ns k)) 0 = nm ns k
   rw [List.getD_eq_getElem?_getD, List.getElem?_eq_getElem h1, Option.getD_some, h2]
  have hvia : G'.via G2 (nu ls ns) (fun b => Hl lent.length rv.length b = true) := by
   have key : ∀ b, Hl lent.length rv.length b = true → (∃ k, k < lent.length ∧ b = 90000 + k) ∨ (b < rv.length ∧ BW b = false) := by
    intro b hb
    unfold Hl at hb
    split at hb
    ·rename_i h
     obtain ⟨k, _, rfl⟩ := Im h
     rw [Nat.blt_eq] at hb
     exact .inl ⟨k, by omega, rfl⟩
    ·rename_i h
     rw [Nat.blt_eq] at hb
     exact .inr ⟨hb, by simpa using h⟩
   refine ⟨fun β h => h, fun b hb => ?_, fun b hb => ?_, fun b hb => ?_⟩
   ·rcases key b hb with ⟨k, hk, rfl⟩ | ⟨hb1, hb2⟩
    ·rw [Gb (by omega)]
     have hni : nm ls k ∉ ns := hlsns _ (EL (by omega))
     simp only [G2]; rw [if_neg hni, (hsame k hk).1]; simp only [Gc]; rw [Gb (by omega)]
    ·rw [Kr (by omega)]
     simp only [G2]; rw [if_pos (EL (by omega)), hidx b (by omega)]
   ·rcases key b hb with ⟨k, hk, rfl⟩ | ⟨hb1, hb2⟩
    ·rw [Gb (by omega)]
     have hni : nm ls k ∉ ns := hlsns _ (EL (by omega))
     simp only [G2]; rw [if_neg hni, (hsame k hk).2.1]; simp only [Gc]; rw [Gb (by omega)]
    ·rw [Kr (by omega)]
     simp only [G2]; rw [if_pos (EL (by omega)), hidx b (by omega)]
   ·rcases key b hb with ⟨k, hk, rfl⟩ | ⟨hb1, hb2⟩
    ·rw [Gb (by omega)]
     have hni : nm ls k ∉ ns := hlsns _ (EL (by omega))
     simp only [G2]; rw [if_neg hni, (hsame k hk).2.2]; simp only [Gc]; rw [Gb (by omega)]
    ·rw [Kr (by omega)]
     simp only [G2]; rw [if_pos (EL (by omega)), hidx b (by omega)]
  have hext : G.ext G2 (fun b => (st.bx b).isSome = true) := by
   have : ∀ b, (st.bx b).isSome = true → b ∉ ns := fun b hb hm => by rw [hnew' b hm] at hb; cases hb
   exact ⟨fun β h => hS1 β h, fun b hb => by simp only [G2]; rw [if_neg (this b hb)], fun b hb => by simp only [G2]; rw [if_neg (this b hb)], fun b hb => by simp only [G2]; rw [if_neg (this b hb)]⟩
  have hnotL : ∀ β, O3 Gc lent.length β → ∃ k, k < lent.length ∧ G.has (nm ls k) β := fun β ⟨k, hk, hb⟩ => ⟨k, hk, (hGc k β hk).1 hb⟩
  have hwS : ∀ β, G.S β → w'.heap[β]? = w.heap[β]? := fun β hβ => hbel.block β (hs.S_lt β hβ) fun h => by
   obtain ⟨k, hk, hg⟩ := hnotL β h
   exact (hs.at_ok _ _ β (hlk k hk).1 (hlk k hk).2 hg).2.2 hβ
  have hsz := hbel.size
  have hle := hs.below.size
  have hng := fun c => LC (f := nu ls ns) (bx := st.bx) (ns := ns) (rv := rv) (c := c) hns hnd
  have hbg := Ma (f := nu ls ns) (bx := st.bx) (r := newB (nu ls ns) ns rv) (ls := ls) (lent := lent) (ch := ch) hll hln hch (fun c hc => (hng c).1 (hlsns c hc)) hlb
  have hblk : ∀ c k, Bt st.bx (HK (nu ls ns) ls lent ch (newB (nu ls ns) ns rv)) c = some k →
    (c ∉ ns ∧ c ∉ ls ∧ st.bx c = some k) ∨ (∃ m x, m < ns.length ∧ nm ns m = c ∧ rv[m]? = some x ∧ k = x.ren (nu ls ns)) ∨ (∃ m x, m < ls.length ∧ nm ls m = c ∧ lent[m]? = some x ∧ k = x.2.ren (nu ls ns)) := by
   intro c k hc
   by_cases hm : c ∈ ls
   ·obtain ⟨m, hm1, hm2⟩ := Ln hm
    have hlx : lent[m]? = some (lent[m]'(by omega)) := by simp [show m < lent.length from by omega]
    have := hbg.2 m _ hlx
    rw [hm2, hc] at this
    exact .inr (.inr ⟨m, _, hm1, hm2, hlx, by simpa using this⟩)
   ·rw [hbg.1 c hm] at hc
    by_cases hm2 : c ∈ ns
    ·obtain ⟨m, hm1, hm3⟩ := Ln hm2
     have hrx : rv[m]? = some (rv[m]'(by omega)) := by simp [show m < rv.length from by omega]
     have := (hng c).2 m _ hrx
     rw [hm3, hc] at this
     exact .inr (.inl ⟨m, _, hm1, hm3, hrx, by simpa using this⟩)
    ·rw [(hng c).1 hm2] at hc; exact .inl ⟨hm2, hm, hc⟩
  have hdom : ∀ b, Hl lent.length rv.length b = true → (Bt st.bx (HK (nu ls ns) ls lent ch (newB (nu ls ns) ns rv)) (nu ls ns b)).isSome = true := by
   intro b hb
   unfold Hl at hb
   split at hb
   ·rename_i h
    obtain ⟨k, _, rfl⟩ := Im h
    rw [Nat.blt_eq] at hb
    have hk : k < lent.length := by omega
    rw [Gb (by omega), hbg.2 k _ (show lent[k]? = some lent[k] by simp [hk])]; rfl
   ·rename_i h
    rw [Nat.blt_eq] at hb
    have hni : nm ns b ∉ ls := fun hm => hlsns _ hm (EL (by omega))
    rw [Kr (by omega), hbg.1 _ hni, (hng (nm ns b)).2 b _ (show rv[b]? = some rv[b] by simp [hb])]; rfl
  have hren : ∀ l : List Nat, Is lent.length rv.length l = true → ∀ b, b ∈ l → Hl lent.length rv.length b = true := fun l h b hb => List.all_eq_true.1 h b hb
  have hrenB : ∀ (k : By) b, b ∈ (k.ren (nu ls ns)).names → ∃ b0, b0 ∈ k.names ∧ b = nu ls ns b0 := by
   intro k b hb
   cases k with
   | box cs =>
    obtain ⟨c, hc, hb⟩ := Be.1 hb
    obtain ⟨c0, h0, rfl⟩ := List.mem_map.1 hc
    obtain ⟨b0, h1, h2⟩ := IM hb
    exact ⟨b0, Be.2 ⟨c0, h0, h1⟩, h2⟩
   | vec e rows => cases hb
   | mp es => cases hb
   | dvec e cols rs => cases hb
   | hol e cols i0 k0 c rs => exact ⟨c, by simp [By.names], by simpa [By.ren, By.names] using hb⟩
   | gone => cases hb
  have hhasN : ∀ m β, m < ns.length → (G2.has (nm ns m) β ↔ G'.has m β) := fun m β hm => by
   have hmd : Hl lent.length rv.length m = true := by
    unfold Hl; rw [H7 (show m < 90000 by omega) (Nat.le_refl _), if_neg (by simp), Nat.blt_eq]; omega
   have := hvia.has (β := β) hmd
   rwa [Kr (by omega)] at this
  have key : Dn P X G2 ⟨st.env, Bt st.bx (HK (nu ls ns) ls lent ch (newB (nu ls ns) ns rv))⟩ a w' := by
   refine hs.frame (fun c hc => Ly hc) hext hwS ?_ ?_ ?_ ?_ ?_ ?_ (fun b hb => by
    have : b ∉ ns := fun hm => by rw [hndl.2 b hm] at hb; cases hb
    simp only [G2]; rw [if_neg this, if_neg this, if_neg this]; exact ⟨rfl, rfl, rfl⟩)
   ·intro c k hc
    rcases hblk c k hc with ⟨_, h0, h1⟩ | ⟨m, x, h1, h2, h3, h4⟩ | ⟨m, x, h1, h2, h3, h4⟩
    ·refine .inl ⟨h1, fun β hr hβ => hbel.block β (hs.at_ok c k β h1 hr hβ).2.1 fun hL => ?_⟩
     obtain ⟨j, hj, hg⟩ := hnotL β hL
     exact h0 ((hs.at_inj _ _ _ _ β h1 (hlk j hj).1 hr (hlk j hj).2 hβ hg) ▸ EL (by omega))
    ·subst h4
     have hmd : Hl lent.length rv.length m = true := by
      unfold Hl; rw [H7 (show m < 90000 by omega) (Nat.le_refl _), if_neg (by simp), Nat.blt_eq]; omega
     have hxn := hren _ (List.all_eq_true.1 hnmV x (List.mem_of_getElem? h3))
     refine .inr ⟨?_, fun c' hc' => ?_⟩
     ·have := (hvec m x h3).ren hvia hmd hxn
      rwa [Kr (by omega), h2] at this
     ·obtain ⟨b0, hb0, rfl⟩ := hrenB x c' hc'
      exact hdom b0 (hxn b0 hb0)
    ·subst h4
     have hmd : Hl lent.length rv.length (90000 + m) = true := by
      unfold Hl; rw [GD (by omega), if_pos rfl, Nat.blt_eq]; omega
     have hxn := hren _ (List.all_eq_true.1 hnmL x (List.mem_of_getElem? h3))
     refine .inr ⟨?_, fun c' hc' => ?_⟩
     ·have := (hpost m x h3).ren hvia hmd hxn
      rwa [Gb (by omega), h2] at this
     ·obtain ⟨b0, hb0, rfl⟩ := hrenB x.2 c' hc'
      exact hdom b0 (hxn b0 hb0)
   ·intro c k β hc hr hβ
    rcases hblk c k hc with ⟨h0, _, h1⟩ | ⟨m, x, h1, h2, h3, h4⟩ | ⟨m, x, h1, h2, h3, h4⟩
    ·have hβ := (hext.has (by rw [h1]; rfl)).1 hβ
     have := hs.at_ok c k β h1 hr hβ
     refine ⟨this.1, by omega, fun h => ?_⟩
     rcases hS2 β h with h | h
     ·exact this.2.2 h
     ·omega
    ·rw [← h2, hhasN m β h1] at hβ
     have := hvat m β (by omega) hβ
     exact ⟨.new (by omega), this.2.1, this.2.2⟩
    ·subst h2
     have h5 := hlk m (by omega)
     have hβ := (hext.has (by rw [h5.1]; rfl)).1 hβ
     have := hs.at_ok _ _ β h5.1 h5.2 hβ
     refine ⟨this.1, by omega, hlS m β (by omega) ?_⟩
     have h6 := hsame m (by omega)
     unfold Gh.has at hβ ⊢
     rw [h6.1, h6.2.2]
     simp only [Gc]; rw [Gb (by omega)]; exact hβ
   ·intro c c' k k' β hc hc' hr hr' hβ hβ'
    have old : ∀ c k, Bt st.bx (HK (nu ls ns) ls lent ch (newB (nu ls ns) ns rv)) c = some k → k.real = true → G2.has c β → (∃ k0, st.bx c = some k0 ∧ k0.real = true ∧ G.has c β) ∨ ∃ m, m < ns.length ∧ nm ns m = c ∧ G'.has m β := by
     intro c k hc hr hβ
     rcases hblk c k hc with ⟨h0, _, h1⟩ | ⟨m, x, h1, h2, h3, h4⟩ | ⟨m, x, h1, h2, h3, h4⟩
     ·exact .inl ⟨k, h1, hr, (hext.has (by rw [h1]; rfl)).1 hβ⟩
     ·rw [← h2, hhasN m β h1] at hβ
      exact .inr ⟨m, h1, h2, hβ⟩
     ·subst h2
      have h5 := hlk m (by omega)
      exact .inl ⟨_, h5.1, h5.2, (hext.has (by rw [h5.1]; rfl)).1 hβ⟩
    rcases old c k hc hr hβ with ⟨k0, h1, h2, h3⟩ | ⟨m, h1, h2, h3⟩ <;> rcases old c' k' hc' hr' hβ' with ⟨k0', h1', h2', h3'⟩ | ⟨m', h1', h2', h3'⟩
    ·exact hs.at_inj c c' k0 k0' β h1 h1' h2 h2' h3 h3'
    ·have h5 := hvat m' β (by omega) h3'
     have h6 := (hs.at_ok c k0 β h1 h2 h3).2.1
     omega
    ·have h5 := hvat m β (by omega) h3
     have h6 := (hs.at_ok c' k0' β h1' h2' h3').2.1
     omega
    ·have := hvinj m m' β (by omega) (by omega) h3 h3'
     rw [← h2, ← h2', this]
   ·intro β h
    rcases hS2 β h with h | h
    ·have := hs.S_lt β h; omega
    ·exact h.2
   ·intro β h
    rcases hS2 β h with h | h
    ·exact hs.S_src β h
    ·exact .inr (by omega)
   ·refine hs.below.trans ⟨hbel.os, hbel.tape, hbel.output, hbel.size, fun k hk hnl => hbel.block k (by omega) fun hL => ?_⟩
    obtain ⟨j, hj, hg⟩ := hnotL k hL
    rcases (hs.at_ok _ _ k (hlk j hj).1 (hlk j hj).2 hg).1.2 with h | h
    ·omega
    ·exact hnl h
  refine hK _ _ ⟨G2, key.put (some s) (some (res.ren (nu ls ns))) v (by intro t e; cases e; exact hn) ?_⟩
  rintro d ⟨⟩
  refine ⟨hres'.ren hvia (hren _ hnmR), fun b hb => ?_⟩
  obtain ⟨b0, h1, h2⟩ := IR hb
  rw [h2]
  exact hdom b0 (hren _ hnmR b0 h1)
end run
end Go.Lift

/- Parts of a call's own slices: cut, copied into, appended to in place, cleared. No condition. -/
namespace Go.Lift
open Go.RowKit
variable {P : Program} {X : IC} {ops : Array Oper}
def H1 {α : Type} (xs : List α) (q : Nat) (ys : List α) : List α := xs.take q ++ ys ++ xs.drop (q + ys.length)
theorem Ir {α : Type} {xs ys : List α} {q : Nat} (h : q + ys.length ≤ xs.length) : (H1 xs q ys).length = xs.length := by
 unfold H1; simp; omega
theorem OK {α : Type} {xs ys : List α} {q : Nat} (h : q + ys.length ≤ xs.length) (i : Nat) : (H1 xs q ys)[i]? = if q ≤ i ∧ i < q + ys.length then ys[i - q]? else xs[i]? := by
 unfold H1
 by_cases h1 : i < q
 ·rw [if_neg (by omega), List.append_assoc, List.getElem?_append_left (by simp; omega), List.getElem?_take_of_lt h1]
 ·by_cases h2 : i < q + ys.length
  ·rw [if_pos (by omega), List.getElem?_append_left (by simp; omega), List.getElem?_append_right (by simp; omega)]
   congr 1; simp; omega
  ·rw [if_neg (by omega), List.getElem?_append_right (by simp; omega), List.getElem?_drop]
   congr 1; simp; omega
theorem O6 {α β : Type} (f : α → β) (xs ys : List α) (q : Nat) : H1 (xs.map f) q (ys.map f) = (H1 xs q ys).map f := by
 unfold H1; simp
inductive KT : D → Nat → Nat → List (List T) → Nat → Nat → Prop where
 | own (b e : Nat) (rows : List (List T)) : KT (.e (.one (.own b))) b e rows 0 rows.length
 | view (b e : Nat) (rows : List (List T)) (lo len : Nat) (h : lo + len ≤ rows.length) : KT (.e (.one (.view b e lo len))) b e rows lo len
inductive L3 : D → List (Nat × By) → Nat → List (List T) → Prop where
 | of {d : D} {rb : List (Nat × By)} {e : Nat} {rows : List (List T)} (h : SP d rb e rows) : L3 d rb e rows
 | view (b e : Nat) (rows : List (List T)) (lo len : Nat) (h : lo + len ≤ rows.length) : L3 (.e (.one (.view b e lo len))) [(b, .vec e rows)] e ((rows.drop lo).take len)
theorem Mf (q : Addr) : q.add 0 = q := by unfold Addr.add; simp
theorem LK {G : Gh} {w : World} {b e : Nat} {rows : List (List T)} (h : E6 P w G b (.vec e rows)) : ∃ a cap, G.hd b = .slice a rows.length cap ∧ rows.length ≤ cap ∧
  (0 < cap → ∃ β arr el, a = some ⟨β, 0, none⟩ ∧ G.loc b = some β ∧ w.heap[β]? = some (.cells arr el (0, 0)) ∧ arr.size = cap * e ∧ DB w G.S arr e 0 rows) := by
 rcases h with ⟨a, h1, h2, _⟩ | ⟨β, cap, arr, el, h0, h1, h2, h3, h4, h5, h6⟩
 ·subst h2; exact ⟨a, 0, h1, Nat.le_refl _, fun h => by cases h⟩
 ·exact ⟨_, cap, h1, h3, fun _ => ⟨β, arr, el, rfl, h0, h2, h4, by rw [h4, Nat.zero_add]; exact Nat.mul_le_mul_right e h3, h5, fun i row j t hi hj => by rw [Nat.zero_add]; exact h6 i row j t hi hj⟩⟩
section run
variable {dr : Bool} {Q : St → Prop} {r i : Nat} {st : St} {log : List (Nat × CU)} {o : Oper} {gs : List (Operand × D)}
theorem Dn.dstV {G : Gh} {a : Act} {w : World} (hs : Dn P X G st a w) {x : Operand} {d : D} {b e lo len : Nat} {rows : List (List T)} (hx : Lift.opd st.env x = some d) (h : KT d b e rows lo len) (hb : st.bx b = some (.vec e rows)) :
  ∃ p cap', a.eval x = .slice p len cap' ∧ rows.length - lo ≤ cap' ∧ lo + len ≤ rows.length ∧
   (lo < rows.length → ∃ β cap arr el, G.loc b = some β ∧ G.hd b = .slice (some ⟨β, 0, none⟩) rows.length cap ∧ rows.length ≤ cap ∧ p = some ⟨β, lo * e, none⟩ ∧ w.heap[β]? = some (.cells arr el (0, 0)) ∧ arr.size = cap * e ∧ DB w G.S arr e 0 rows) := by
 obtain ⟨a0, cap, h1, h2, h3⟩ := LK (hs.blk b _ hb)
 have hR := hs.opd hx
 cases h with
 | own =>
  obtain ⟨hR, _⟩ : EF P w G (a.eval x) (.own b) := hR
  refine ⟨a0, cap, hR.trans h1, by omega, by omega, fun hlt => ?_⟩
  obtain ⟨β, arr, el, g1, g2, g3, g4, g5⟩ := h3 (by omega)
  subst g1
  exact ⟨β, cap, arr, el, g2, h1, h2, by simp, g3, g4, g5⟩
 | view _ _ _ _ _ h =>
  obtain ⟨a1, n1, cap1, p, k1, k2, k3, k4⟩ : EF P w G (a.eval x) (.view b e lo len) := hR
  rw [h1] at k1
  cases k1
  refine ⟨p, cap - lo, k3, by omega, h, fun hlt => ?_⟩
  obtain ⟨β, arr, el, g1, g2, g3, g4, g5⟩ := h3 (by omega)
  subst g1
  refine ⟨β, cap, arr, el, g2, h1, h2, ?_, g3, g4, g5⟩
  rw [k4 (by omega)]
  simp [Addr.add_mk]
theorem Dn.srcW {G : Gh} {a : Act} {w : World} (hs : Dn P X G st a w) {x : Operand} {d : D} {rb : List (Nat × By)} {e : Nat} {rows : List (List T)} (hx : Lift.opd st.env x = some d) (h : L3 d rb e rows) (hb : GX st.bx rb) :
  ∃ p cap, a.eval x = .slice p rows.length cap ∧ (rows = [] ∨ ∃ β off arr el fz, p = some ⟨β, off, none⟩ ∧ w.heap[β]? = some (.cells arr el fz) ∧ DB w G.S arr e off rows) := by
 cases h with
 | of h =>
  have hR := hs.opd hx
  cases h with
  | own b e rows =>
   obtain ⟨hR, _⟩ : EF P w G (a.eval x) (.own b) := hR
   obtain ⟨a0, cap, h1, h2, h3⟩ := LK (hs.blk b _ hb.1)
   refine ⟨a0, cap, hR.trans h1, ?_⟩
   cases rows with
   | nil => exact .inl rfl
   | cons y ys =>
    obtain ⟨β, arr, el, g1, g2, g3, g4, g5⟩ := h3 (by simp at h2; omega)
    exact .inr ⟨β, 0, arr, el, (0, 0), g1, g3, g5⟩
  | sl e rows hrow =>
   have hR : DF w G.S (a.eval x) (.sl rows) := hR
   generalize a.eval x = v at hR
   cases hR with
   | nil a' cap => exact ⟨_, _, rfl, .inl rfl⟩
   | sl β off cap e' arr el' fz rows h1 h2 h3 h4 h5 h6 =>
    refine ⟨_, _, rfl, ?_⟩
    cases rows with
    | nil => exact .inl rfl
    | cons r0 rs =>
     have he : e' = e := by rw [← hrow 0 r0 rfl]; exact (h5 0 r0 rfl).symm
     subst he
     exact .inr ⟨β, off, arr, el', fz, rfl, h2, h4, h5, h6⟩
  | nil e =>
   have hR : DF w G.S (a.eval x) .nil0 := hR
   generalize a.eval x = v at hR
   cases hR with
   | nil0 a' => exact ⟨_, _, rfl, .inl rfl⟩
 | view b _ rows lo len h =>
  obtain ⟨p, cap', h1, h2, h3, h4⟩ := hs.dstV hx (.view b e rows lo len h) hb.1
  have hlen : ((rows.drop lo).take len).length = len := by simp; omega
  refine ⟨p, cap', by rw [hlen]; exact h1, ?_⟩
  by_cases hz : len = 0
  ·exact .inl (by rw [hz, List.take_zero])
  ·obtain ⟨β, cap, arr, el, g1, g2, g3, g4, g5, g6, g7⟩ := h4 (by omega)
   refine .inr ⟨β, lo * e, arr, el, (0, 0), g4, g5, ?_, ?_, ?_⟩
   ·rw [hlen, g6, ← Nat.add_mul]; exact Nat.mul_le_mul_right e (by omega)
   ·intro i row hi
    have := AM hi
    rw [hlen] at this
    rw [List.getElem?_take_of_lt this, List.getElem?_drop] at hi
    exact g7.2.1 _ row hi
   ·intro i row j t hi hj
    have := AM hi
    rw [hlen] at this
    rw [List.getElem?_take_of_lt this, List.getElem?_drop] at hi
    have := g7.2.2 _ row j t hi hj
    rwa [Nat.zero_add, Nat.add_mul] at this
theorem DB.take {w : World} {S : Nat → Prop} {arr : Array Value} {e off n : Nat} {rows : List (List T)} (h : DB w S arr e off rows) : DB w S arr e off (rows.take n) := by
 refine ⟨?_, ?_, ?_⟩
 ·have := h.1
  have h2 : (rows.take n).length * e ≤ rows.length * e := Nat.mul_le_mul_right e (by simp; omega)
  omega
 ·intro i row hi
  have := AM hi
  simp at this
  rw [List.getElem?_take_of_lt (by omega)] at hi
  exact h.2.1 i row hi
 ·intro i row j t hi hj
  have := AM hi
  simp at this
  rw [List.getElem?_take_of_lt (by omega)] at hi
  exact h.2.2 i row j t hi hj
theorem MI {w : World} {S : Nat → Prop} {p : Option Addr} {len cap e n : Nat} {rows : List (List T)} (hn : n ≤ rows.length) (h : rows = [] ∨ ∃ β off arr el fz, p = some ⟨β, off, none⟩ ∧ w.heap[β]? = some (.cells arr el fz) ∧ DB w S arr e off rows) :
  ∃ news, (Builtin.firstCells e n (.slice p len cap)).run P w = .ok news w ∧ DB w S news e 0 (rows.take n) ∧ news.size = n * e := by
 rcases h with h | ⟨β, off, arr, el, fz, h1, h2, h3⟩
 ·subst h
  have : n = 0 := by simpa using hn
  subst this
  obtain ⟨news, k1, k2, k3⟩ := ER (P := P) (w := w) (a := p) (len := len) (cap := cap) (e := e) (S := S)
  exact ⟨news, k1 w rfl, by simpa using k2, by simpa using k3⟩
 ·subst h1
  have hl : (rows.take n).length = n := by simp; omega
  obtain ⟨news, k1, k2, k3⟩ := Gg (P := P) (len := len) (cap := cap) h2 (h3.take (n := n))
  rw [hl] at k1 k3
  exact ⟨news, k1 w rfl, k2, k3⟩
theorem N5 {G : Gh} {w : World} {b e β cap q : Nat} {rows rows2 : List (List T)} {arr news : Array Value} {el : TypeId} (hlt : β < w.heap.size) (hnS : ¬ G.S β) (h0 : G.loc b = some β) (h1 : G.hd b = .slice (some ⟨β, 0, none⟩) rows.length cap) (h3 : rows.length ≤ cap) (h4 : arr.size = cap * e) (h5 : DB w G.S arr e 0 rows)
  (hn : DB w G.S news e 0 rows2) (hns : news.size = rows2.length * e) (hq : q + rows2.length ≤ rows.length) :
  E6 P (F6 w β (.cells (zFS arr (q * e) news.toList) el (0, 0))) G b (.vec e (H1 rows q rows2)) := by
 have hle : q * e + rows2.length * e ≤ cap * e := by rw [← Nat.add_mul]; exact Nat.mul_le_mul_right e (by omega)
 have hS : ∀ γ, G.S γ → (F6 w β (.cells (zFS arr (q * e) news.toList) el (0, 0))).heap[γ]? = w.heap[γ]? := fun γ hγ => by
  rw [D1, if_neg (fun (h : γ = β ∧ β < w.heap.size) => hnS (h.1 ▸ hγ))]
 have hrl : ∀ (i : Nat) (row : List T), (H1 rows q rows2)[i]? = some row → row.length = e := by
  intro i row hi
  rw [OK hq] at hi
  split at hi
  ·exact hn.2.1 _ row hi
  ·exact h5.2.1 _ row hi
 refine .inr ⟨β, cap, zFS arr (q * e) news.toList, el, h0, by rw [Ir hq]; exact h1, by rw [D1, if_pos ⟨rfl, hlt⟩], by rw [Ir hq]; exact h3, by rw [GG, h4], hrl, ?_⟩
 intro i row j t hi hj
 have hj' := AM hj
 have hre := hrl i row hi
 rw [OK hq] at hi
 rw [Fc _ _ _ _ (by simp; omega)]
 simp only [Array.length_toList, hns]
 split at hi
 ·rename_i hin
  have hle2 : (i - q) * e + e ≤ rows2.length * e := by rw [← Nat.succ_mul]; exact Nat.mul_le_mul_right e (by omega)
  have hsp : i * e = q * e + (i - q) * e := by rw [← Nat.add_mul]; congr 1; omega
  rw [if_pos (by omega)]
  have := hn.2.2 _ row j t hi hj
  rw [Nat.zero_add] at this
  have h6 : (news.toList[i * e + j - q * e]?).getD undef = AC news ((i - q) * e + j) := by
   rw [show i * e + j - q * e = (i - q) * e + j from by omega]
   unfold AC; simp
  rw [h6]
  exact this.mono hS fun _ h => h
 ·rename_i hin
  rw [if_neg]
  ·have := h5.2.2 _ row j t hi hj
   rw [Nat.zero_add] at this
   exact this.mono hS fun _ h => h
  ·rintro ⟨k1, k2⟩
   by_cases hiq : i < q
   ·have : i * e + e ≤ q * e := by rw [← Nat.succ_mul]; exact Nat.mul_le_mul_right e hiq
    omega
   ·have : q * e + rows2.length * e ≤ i * e := by rw [← Nat.add_mul]; exact Nat.mul_le_mul_right e (by omega)
    omega
theorem PE {x : Operand} {t el s e l h b lo0 len : Nat} {lo hi : Option Operand} {rl rh : List (Operand × D)} {rows : List (List T)} {d : D} (hat : At st.env ops i X.n (.slice t x lo hi none) s gs)
  (hx : opd st.env x = some d) (hD : KT d b e rows lo0 len) (hb : st.bx b = some (.vec e rows)) (ht : sliceB P t el = true) (he : GW P el e = true) (hlo : QD lo 0 l rl) (hhi : QD hi len h rh) (h1 : Fk st.env rl) (h2 : Fk st.env rh) (hlh : l ≤ h) (hhl : lo0 + h ≤ rows.length)
  (next : Bq P X ops dr Q r (i + 1) (CU.upd ⟨gs ++ ((x, d) :: (rl ++ rh)), [(b, .vec e rows)], some s, some (.e (.one (.view b e (lo0 + l) (h - l)))), [], []⟩ st) ((i, ⟨gs ++ ((x, d) :: (rl ++ rh)), [(b, .vec e rows)], some s, some (.e (.one (.view b e (lo0 + l) (h - l)))), [], []⟩) :: log)) : Bq P X ops dr Q (r + 1) i st log := by
 obtain ⟨o, ho, hop, hd, hn, hg, hgp⟩ := hat.out
 refine Bq.step next ⟨Aw.2 ⟨hgp, hx, Aw.2 ⟨h1, h2⟩⟩, ⟨hb, trivial⟩, trivial⟩ (LR.value ho hg rfl hd.symm (DG hd hn) ?_)
 intro G st a w hs hpre
 obtain ⟨hx, h12⟩ := (Aw.1 hpre.r).2
 obtain ⟨h1, h2⟩ := Aw.1 h12
 have hb := hpre.b.1
 -- the header of the whole
 obtain ⟨a0, cap, k1, k2, k3⟩ := LK (hs.blk b _ hb)
 have hv : ∃ p, a.eval x = .slice p len (cap - lo0) ∧ lo0 + len ≤ rows.length ∧ (lo0 < cap → p = a0.map fun q => q.add (lo0 * e)) := by
  have hR := hs.opd hx
  cases hD with
  | own =>
   obtain ⟨hR, _⟩ : EF P w G (a.eval x) (.own b) := hR
   exact ⟨a0, hR.trans k1, by omega, fun _ => by cases a0 <;> simp [Mf]⟩
  | view _ _ _ _ _ h' =>
   obtain ⟨a1, n1, cap1, p, g1, g2, g3, g4⟩ : EF P w G (a.eval x) (.view b e lo0 len) := hR
   rw [k1] at g1; cases g1
   exact ⟨p, g3, h', g4⟩
 obtain ⟨p, hv1, hv2, hv3⟩ := hv
 refine ⟨.slice (if cap - lo0 = l then p else p.map (·.add (l * e))) (h - l) (cap - lo0 - l), w, G, ?_, hs, ?_⟩
 ·simp only [execOp, hop]
  refine An (a := .slice (if cap - lo0 = l then p else p.map (·.add (l * e))) (h - l) (cap - lo0 - l)) (w1 := w) ?_ rfl
  rw [hv1]
  exact NK (a := a) hs ht he hlo hhi h1 h2 hlh (by omega)
 ·rintro d' ⟨⟩
  refine ⟨⟨a0, rows.length, cap, _, k1, by omega, by rw [show cap - lo0 - l = cap - (lo0 + l) from by omega], fun hlt => ?_⟩, fun b' hb' => ?_⟩
  ·rw [if_neg (by omega), hv3 (by omega)]
   obtain ⟨β, arr, el', g1, _⟩ := k3 (by omega)
   subst g1
   simp only [Option.map_some, Addr.add_mk, Nat.add_mul, Nat.zero_add]
  ·simp [D.names, E.names, C.names] at hb'
   subst hb'
   simp [Bt, hb]
theorem Sn {x : Operand} {s t el b e lo len : Nat} (hat : At st.env ops i X.n (.call ⟨.builtin .len, #[x], #[t]⟩) s gs)
  (hx : opd st.env x = some (.e (.one (.view b e lo len)))) (ht : sliceB P t el = true)
  (next : Bq P X ops dr Q r (i + 1) (CU.upd ⟨gs ++ [(x, .e (.one (.view b e lo len)))], [], some s, some (vD (goInt len)), [], []⟩ st) ((i, ⟨gs ++ [(x, .e (.one (.view b e lo len)))], [], some s, some (vD (goInt len)), [], []⟩) :: log)) : Bq P X ops dr Q (r + 1) i st log := by
 obtain ⟨o, ho, hop, hd, hn, hg, hgp⟩ := hat.out
 refine Bq.step next ⟨Aw.2 ⟨hgp, hx, trivial⟩, trivial, trivial⟩ (LR.value ho hg rfl hd.symm (DG hd hn) ?_)
 intro G st a w hs hpre
 obtain ⟨hx, _⟩ := (Aw.1 hpre.r).2
 obtain ⟨a1, n1, cap1, p, k1, k2, k3, k4⟩ : EF P w G (a.eval x) (.view b e lo len) := hs.opd hx
 refine ⟨goInt len, w, G, ?_, hs, ?_⟩
 ·simp only [execOp, hop]
  refine F4 fun cs => ?_
  simp only [List.map_toArray, List.map_cons, List.map_nil, builtin, k3]
  exact An (J5 ht) rfl
 ·rintro d ⟨⟩
  exact ⟨.val _ rfl, fun b hb => by cases hb⟩
theorem Qd {x y : Operand} {s e b lo len : Nat} {rows : List (List T)} {row : List T} {t el : TypeId} {k : IntKind} {n : Int} (hat : At st.env ops i X.n (.indexAddr t x y) s gs)
  (hx : opd st.env x = some (.e (.one (.view b e lo len)))) (hle : lo + len ≤ rows.length) (hy : opd st.env y = some (vD (.int k n))) (hb : st.bx b = some (.vec e rows)) (ht : sliceB P t el = true) (hz : GW P el e = true) (h0 : 0 ≤ n) (hn1 : n.toNat < len)
  (next : Bq P X ops dr Q r (i + 1) (CU.upd ⟨gs ++ [(x, .e (.one (.view b e lo len))), (y, vD (.int k n))], [(b, .vec e rows)], some s, some (.e (.one (.eptr b e (lo + n.toNat) 0))), [], []⟩ st) ((i, ⟨gs ++ [(x, .e (.one (.view b e lo len))), (y, vD (.int k n))], [(b, .vec e rows)], some s, some (.e (.one (.eptr b e (lo + n.toNat) 0))), [], []⟩) :: log)) : Bq P X ops dr Q (r + 1) i st log := by
 obtain ⟨o, ho, hop, hd, hn, hg, hgp⟩ := hat.out
 refine Bq.step next ⟨Aw.2 ⟨hgp, hx, hy, trivial⟩, ⟨hb, trivial⟩, trivial⟩ (LR.value ho hg rfl hd.symm (DG hd hn) ?_)
 intro G st a w hs hpre
 obtain ⟨hx, hy, _⟩ := (Aw.1 hpre.r).2
 have hb := hpre.b.1
 obtain ⟨p, cap', h1, h2, h3, h4⟩ := hs.dstV hx (.view b e rows lo len hle) hb
 have hY : a.eval y = .int k n := EC (hs.opd hy : DF w G.S (a.eval y) (.val _))
 obtain ⟨β, cap, arr, el', g1, g2, g3, g4, g5, g6, g7⟩ := h4 (by omega)
 subst g4
 refine ⟨_, w, G, by simp only [execOp, hop, h1, hY]; exact An (IV ht hz h0 hn1) rfl, hs, ?_⟩
 rintro d ⟨⟩
 exact ⟨⟨β, g1, by simp [Nat.add_mul]⟩, fun b' hb' => hs.opd_live hx b' (by simpa [D.names, E.names, C.names] using hb')⟩
theorem QB {t t2 el e : Nat} {w : World} {p p2 : Option Addr} {dl dc n2 c2 : Nat} {news : Array Value} {ty : TypeId} (ht : sliceB P t el = true) (he : GW P el e = true) (hnew : (Builtin.firstCells e (Nat.min n2 dl) (.slice p2 n2 c2)).run P w = .ok news w) {w' : World}
  (hst : ∀ q, p = some q → (storeCells q news.toList).run P w = .ok () w') (hno : p = none → w' = w) : (Builtin.copy_ #[t, t2] ty #[.slice p dl dc, .slice p2 n2 c2]).run P w = .ok (goInt (Nat.min n2 dl)) w' := by
 unfold sliceB at ht
 split at ht
 ·rename_i e' hu
  have : e' = el := by simpa using ht
  subst this
  unfold Builtin.copy_
  refine An (AO hu w) ?_
  refine An (a := n2) (w1 := w) rfl ?_
  refine An (Eo he w) ?_
  refine An hnew ?_
  cases p with
  | none => rw [hno rfl]; rfl
  | some q => exact An (hst q rfl) rfl
 ·cases ht
theorem Se {x y : Operand} {t t2 el s e b lo len : Nat} {d d2 : D} {rb2 : List (Nat × By)} {rows rows2 rows' : List (List T)} (hat : At st.env ops i X.n (.call ⟨.builtin .copy, #[x, y], #[t, t2]⟩) s gs)
  (hx : opd st.env x = some d) (hD : KT d b e rows lo len) (hb : st.bx b = some (.vec e rows)) (hy : opd st.env y = some d2) (hS : L3 d2 rb2 e rows2) (hb2 : GX st.bx rb2) (ht : sliceB P t el = true) (he : GW P el e = true) (hr : H1 rows lo (rows2.take (Nat.min rows2.length len)) = rows')
  (next : Bq P X ops dr Q r (i + 1) (CU.upd ⟨gs ++ [(x, d), (y, d2)], (b, .vec e rows) :: rb2, some s, some (vD (goInt (Nat.min rows2.length len))), [(b, .vec e rows')], []⟩ st) ((i, ⟨gs ++ [(x, d), (y, d2)], (b, .vec e rows) :: rb2, some s, some (vD (goInt (Nat.min rows2.length len))), [(b, .vec e rows')], []⟩) :: log)) : Bq P X ops dr Q (r + 1) i st log := by
 obtain ⟨o, ho, hop, hd, hn, hg, hgp⟩ := hat.out
 refine Bq.step next ⟨Aw.2 ⟨hgp, hx, hy, trivial⟩, ⟨hb, hb2⟩, trivial⟩ (LR.value ho hg rfl hd.symm (DG hd hn) ?_)
 intro G st a w hs hpre
 obtain ⟨hx, hy, _⟩ := (Aw.1 hpre.r).2
 obtain ⟨hb, hb2⟩ := hpre.b
 subst hr
 obtain ⟨p, cap', h1, h2, h3, h4⟩ := hs.dstV hx hD hb
 obtain ⟨p2, cap2, k1, k2⟩ := hs.srcW hy hS hb2
 have hmin : Nat.min rows2.length len ≤ rows2.length := Nat.min_le_left _ _
 have hmin2 : Nat.min rows2.length len ≤ len := Nat.min_le_right _ _
 obtain ⟨news, n1, n2, n3⟩ := MI (P := P) (len := rows2.length) (cap := cap2) hmin k2
 have hl2 : (rows2.take (Nat.min rows2.length len)).length = Nat.min rows2.length len := by rw [List.length_take]; exact Nat.min_eq_left hmin
 have hrun : ∀ w', (∀ q, p = some q → (storeCells q news.toList).run P w = .ok () w') → (p = none → w' = w) → (execOp a.eval o).run P w = .ok (.value (goInt (Nat.min rows2.length len))) w' := fun w' g1 g2 => by
  simp only [execOp, hop]
  refine F4 fun cs => ?_
  simp only [List.map_toArray, List.map_cons, List.map_nil, builtin, h1, k1]
  exact An (QB ht he n1 g1 g2) rfl
 have fin : ∀ d', some (vD (goInt (Nat.min rows2.length len))) = some d' → ∀ w' (G' : Gh), F9 P w' G' (goInt (Nat.min rows2.length len)) d' ∧ ∀ c, c ∈ d'.names → (Bt st.bx [(b, .vec e (H1 rows lo (rows2.take (Nat.min rows2.length len))))] c).isSome = true := fun d' hd' w' G' => by
  cases hd'; exact ⟨.val _ rfl, fun c hc => by cases hc⟩
 by_cases hlt : lo < rows.length
 ·obtain ⟨β, cap, arr, el', g1, g2, g3, g4, g5, g6, g7⟩ := h4 hlt
  subst g4
  have hat := hs.at_ok b _ β hb rfl (.inl g1)
  have hle : lo * e + Nat.min rows2.length len * e ≤ arr.size := by rw [g6, ← Nat.add_mul]; exact Nat.mul_le_mul_right e (by omega)
  have hst := Fj (P := P) (β := β) (el := el') news.toList w (lo * e) 0 arr g5 (by simp [n3]; omega) (DB.ones n2 (by rw [n3, hl2]))
  rw [Nat.add_zero] at hst
  refine ⟨_, _, G, hrun _ (fun q hq => by cases hq; exact hst) (fun h => by cases h), ?_, fun d' hd' => fin d' hd' _ _⟩
  exact hs.setB (b := b) (k0 := .vec e rows) hb rfl rfl (.inl g1) (N5 hat.2.1 hat.2.2 g1 g2 g3 g6 g7 n2 (by rw [n3, hl2]) (by rw [hl2]; omega)) (fun c hc => by cases hc)
 ·have hz : Nat.min rows2.length len = 0 := by omega
  have hn0 : news.toList = [] := List.eq_nil_of_length_eq_zero (by simp [n3, hz])
  have hsp : H1 rows lo (rows2.take (Nat.min rows2.length len)) = rows := by
   have : lo = rows.length := by omega
   rw [hz]; unfold H1; simp [this]
  refine ⟨_, w, G, hrun w (fun q _ => by rw [hn0]; rfl) (fun _ => rfl), ?_, fun d' hd' => fin d' hd' _ _⟩
  have : (⟨st.env, Bt st.bx [(b, .vec e (H1 rows lo (rows2.take (Nat.min rows2.length len))))]⟩ : St) = st := by
   refine St.ext (fun _ => rfl) fun c => ?_
   simp only [Bt]
   split
   ·rename_i e1; rw [e1, hsp, hb]
   ·rfl
  rw [this]; exact hs
theorem Lf {w : World} {S : Nat → Prop} {z : Value} {zs : List Value} {e n : Nat} (hzs : z.cells.toList = zs) (hz1 : zs.all Gp = true) (hze : zs.length = e) : DB w S (Builtin.zeroCells z.cells n) e 0 (List.replicate n (zs.map fun v => (T.of v).nrm)) ∧ (Builtin.zeroCells z.cells n).size = n * e := by
 have hsz : z.cells.size = e := by rw [← hze, ← hzs]; simp
 have hsize : (Builtin.zeroCells z.cells n).size = n * e := by unfold Builtin.zeroCells; simp [hsz]
 refine ⟨⟨by rw [hsize]; simp, ?_, ?_⟩, hsize⟩
 ·intro i row hi
  rw [List.getElem?_replicate] at hi
  split at hi
  ·cases hi; simp [hze]
  ·cases hi
 ·intro i row j t hi hj
  rw [List.getElem?_replicate] at hi
  split at hi
  ·rename_i hlt
   cases hi
   rw [List.getElem?_map] at hj
   cases hv : zs[j]? with
   | none => rw [hv] at hj; cases hj
   | some v =>
    rw [hv] at hj; cases hj
    have hj' : j < e := by rw [← hze]; exact AM hv
    have hle : i * e + e ≤ n * e := by rw [← Nat.succ_mul]; exact Nat.mul_le_mul_right e hlt
    have hc : AC (Builtin.zeroCells z.cells n) (0 + i * e + j) = v := by
     unfold AC Builtin.zeroCells
     rw [Nat.zero_add, hsz]
     have h1 : i * e + j < n * e := by omega
     rw [Array.getElem?_map, show (Array.range (n * e))[i * e + j]? = some (i * e + j) from by simp [h1]]
     simp only [Option.map_some, Option.getD_some]
     have h2 : (i * e + j) % e = j := by rw [Nat.add_comm, Nat.add_mul_mod_self_right, Nat.mod_eq_of_lt hj']
     rw [h2]
     have h3 : z.cells[j]? = some v := by rw [← Array.getElem?_toList, hzs]; exact hv
     show z.cells[j]! = v
     rw [Array.getElem!_eq_getD, Array.getD_eq_getD_getElem?, h3]; rfl
    rw [hc]
    exact (DF.of (List.all_eq_true.1 hz1 v (List.mem_of_getElem? hv))).nrm
  ·cases hi
theorem PU {x : Operand} {t el b e lo len : Nat} {z : Value} {zs : List Value} {d : D} {rows rows' : List (List T)} (hop0 : Nt ops i = some (.call ⟨.builtin .clear, #[x], #[t]⟩))
  (hx : opd st.env x = some d) (hD : KT d b e rows lo len) (hb : st.bx b = some (.vec e rows)) (ht : sliceB P t el = true) (hz : D9 P el = some z) (hzs : z.cells.toList = zs) (hz1 : zs.all Gp = true) (hze : zs.length = e)
  (hr : H1 rows lo (List.replicate len (zs.map fun v => (T.of v).nrm)) = rows')
  (next : Bq P X ops dr Q r (i + 1) (CU.upd ⟨[(x, d)], [(b, .vec e rows)], none, none, [(b, .vec e rows')], []⟩ st) ((i, ⟨[(x, d)], [(b, .vec e rows)], none, none, [(b, .vec e rows')], []⟩) :: log)) : Bq P X ops dr Q (r + 1) i st log := by
 obtain ⟨o, ho, hop, hd, hgn⟩ := KZ hop0
 have hg : PY ops o [] := .none hgn
 refine Bq.step next ⟨⟨hx, trivial⟩, ⟨hb, trivial⟩, trivial⟩ (LR.value (rs := [(x, d)]) ho hg rfl hd.symm (fun s h => by rw [hd] at h; cases h) ?_)
 intro G st a w hs hpre
 have hx := hpre.r.1
 have hb := hpre.b.1
 subst hr
 obtain ⟨p, cap', h1, h2, h3, h4⟩ := hs.dstV hx hD hb
 obtain ⟨n2, n3⟩ := Lf (w := w) (S := G.S) (n := len) hzs hz1 hze
 have hl2 : (List.replicate len (zs.map fun v => (T.of v).nrm)).length = len := by simp
 have hrun : ∀ w', (len ≠ 0 → ∃ q, p = some q ∧ (storeCells q (Builtin.zeroCells z.cells len).toList).run P w = .ok () w') → (len = 0 → w' = w) → (execOp a.eval o).run P w = .ok (.value (.tuple #[])) w' := fun w' g1 g2 => by
  simp only [execOp, hop]
  refine F4 fun cs => ?_
  simp only [List.map_toArray, List.map_cons, List.map_nil, builtin, h1]
  refine An (a := .tuple #[]) (w1 := w') ?_ rfl
  unfold sliceB at ht
  split at ht
  ·rename_i e' hu
   have : e' = el := by simpa using ht
   subst this
   unfold Builtin.clear_
   refine An (AO hu w) ?_
   by_cases hz0 : len = 0
   ·rw [g2 hz0]
    subst hz0
    cases p <;> rfl
   ·obtain ⟨q, hq, hst⟩ := g1 hz0
    subst hq
    obtain ⟨len', rfl⟩ : ∃ m, len = m + 1 := ⟨len - 1, (Nat.succ_pred_eq_of_pos (Nat.pos_of_ne_zero hz0)).symm⟩
    refine An (EU hz w) ?_
    exact An hst rfl
  ·cases ht
 have fin : ∀ (d' : D), (none : Option D) = some d' → ∀ w', F9 P w' G (.tuple #[]) d' ∧ ∀ c, c ∈ d'.names → (Bt st.bx [(b, .vec e (H1 rows lo (List.replicate len (zs.map fun v => (T.of v).nrm))))] c).isSome = true := fun d' hd' => by cases hd'
 by_cases hz0 : len = 0
 ·have hsp : H1 rows lo (List.replicate len (zs.map fun v => (T.of v).nrm)) = rows := by rw [hz0]; unfold H1; simp
  refine ⟨_, w, G, hrun w (fun h => (h hz0).elim) (fun _ => rfl), ?_, fun d' hd' => fin d' hd' _⟩
  have : (⟨st.env, Bt st.bx [(b, .vec e (H1 rows lo (List.replicate len (zs.map fun v => (T.of v).nrm))))]⟩ : St) = st := by
   refine St.ext (fun _ => rfl) fun c => ?_
   simp only [Bt]
   split
   ·rename_i e1; rw [e1, hsp, hb]
   ·rfl
  rw [this]; exact hs
 ·have hlr : lo < rows.length := Nat.lt_of_lt_of_le (Nat.lt_add_of_pos_right (Nat.pos_of_ne_zero hz0)) h3
  obtain ⟨β, cap, arr, el', g1, g2, g3, g4, g5, g6, g7⟩ := h4 hlr
  subst g4
  have hat := hs.at_ok b _ β hb rfl (.inl g1)
  have hle : lo * e + len * e ≤ arr.size := by rw [g6, ← Nat.add_mul]; exact Nat.mul_le_mul_right e (by omega)
  have hst := Fj (P := P) (β := β) (el := el') (Builtin.zeroCells z.cells len).toList w (lo * e) 0 arr g5 (by simp [n3]; omega) (DB.ones n2 (by rw [n3, hl2]))
  rw [Nat.add_zero] at hst
  refine ⟨_, _, G, hrun _ (fun _ => ⟨_, rfl, hst⟩) (fun h => (hz0 h).elim), ?_, fun d' hd' => fin d' hd' _⟩
  exact hs.setB (b := b) (k0 := .vec e rows) hb rfl rfl (.inl g1) (N5 hat.2.1 hat.2.2 g1 g2 g3 g6 g7 n2 (by rw [n3, hl2]) (by rw [hl2]; exact h3)) (fun c hc => by cases hc)
end run
theorem O9 {st : St} (s b e : Nat) (rows : List (List T)) (hs0 : st.env s = some (.e (.one (.own b)))) (hb : st.bx b = some (.vec e rows)) : F0 P X st (St.put st (some s) (some (.e (.one (.view b e 0 rows.length))))) := by
 rintro a w ⟨G, h⟩
 obtain ⟨a0, cap, k1, k2, k3⟩ := LK (h.blk b _ hb)
 obtain ⟨hR, _⟩ : EF P w G (AC a.tmps s) (.own b) := h.env s _ hs0
 refine ⟨G, { h with env := ?_, live := ?_, blk := h.blk, at_ok := h.at_ok, at_inj := h.at_inj, liveB := h.liveB, nlt := h.nlt, lent := h.lent }⟩
 ·intro t d ht
  simp only [St.put] at ht
  split at ht
  ·rename_i e2; cases ht
   rw [e2]
   exact ⟨a0, rows.length, cap, a0, k1, by omega, by rw [hR, k1]; rfl, fun _ => by cases a0 <;> simp [Mf]⟩
  ·exact h.env t d ht
 ·intro t d ht c hc
  simp only [St.put] at ht
  split at ht
  ·cases ht
   simp [D.names, E.names, C.names] at hc
   subst hc
   show (st.bx c).isSome = true
   rw [hb]; rfl
  ·exact h.live t d ht c hc
theorem Qe {st : St} (s b n e len : Nat) (rows : List (List T)) (hs0 : st.env s = some (.e (.one (.view b e 0 len)))) (hb : st.bx b = some (.vec e rows)) (hn : st.bx n = none) (hlb : BW b = false) (hln : BW n = false) (hle : len ≤ rows.length) :
  F0 P X st (St.put ⟨st.env, Bt st.bx [(n, .vec e (rows.take len)), (b, .gone)]⟩ (some s) (some (.e (.one (.own n))))) := by
 rintro a w ⟨G, h⟩
 have hnb : n ≠ b := fun e => by rw [e, hb] at hn; cases hn
 obtain ⟨a0, n1, cap, p, k1, k2, k3, k4⟩ : EF P w G (AC a.tmps s) (.view b e 0 len) := h.env s _ hs0
 obtain ⟨a1, cap1, g1, g2, g3⟩ := LK (h.blk b _ hb)
 rw [g1] at k1; cases k1
 -- the new ghost
 have hlen : (rows.take len).length = len := by rw [List.length_take]; exact Nat.min_eq_left hle
 have hbx : ∀ c, Bt st.bx [(n, By.vec e (rows.take len)), (b, .gone)] c = if c = n then some (.vec e (rows.take len)) else if c = b then some .gone else st.bx c := fun c => rfl
 have hext : ∀ l v, G.ext (G.set n l v) (fun c => (st.bx c).isSome = true) := fun l v => Gh.set_ext _ _ _ _ (by simp [hn])
 have key : ∃ l v, AC a.tmps s = v ∧ (∃ q m c, v = .slice q m c) ∧ (∀ β, l = some β → G.loc b = some β) ∧ E6 P w (G.set n l v) n (.vec e (rows.take len)) := by
  by_cases hc : 0 < cap
  ·obtain ⟨β, arr, el, q1, q2, q3, q4, q5⟩ := g3 hc
   subst q1
   refine ⟨some β, .slice (some ⟨β, 0, none⟩) len cap, ?_, ⟨_, _, _, rfl⟩, fun γ hγ => by cases hγ; exact q2, ?_⟩
   ·rw [k3, k4 hc]; simp [Addr.add_mk]
   ·refine .inr ⟨β, cap, arr, el, by simp [Gh.set], by simp [Gh.set, hlen], q3, by rw [hlen]; omega, q4, fun i row hi => (q5.take (n := len)).2.1 i row hi, fun i row j t hi hj => ?_⟩
    have := (q5.take (n := len)).2.2 i row j t hi hj
    rw [Nat.zero_add] at this
    exact this
  ·have hr0 : rows.length = 0 := by omega
   have hl0 : len = 0 := by omega
   have hc0 : cap = 0 := by omega
   refine ⟨none, .slice p 0 0, by rw [k3, hl0, hc0], ⟨_, _, _, rfl⟩, fun γ hγ => (by cases hγ), .inl ⟨p, by simp [Gh.set], by rw [hl0, List.take_zero], by simp [Gh.set]⟩⟩
 obtain ⟨l, v, hv1, hv2, hl, hblk⟩ := key
 have h1 : Dn P X (G.set n l v) ⟨st.env, Bt st.bx [(n, .vec e (rows.take len)), (b, .gone)]⟩ a w := by
  refine h.frame ?_ (hext l v) (fun _ _ => rfl) ?_ ?_ ?_ h.S_lt h.S_src h.below (Gh.set_lent _ _ hln)
  ·intro c hc; rw [hbx]; split
   ·rfl
   ·split
    ·rfl
    ·exact hc
  ·intro c k hc
   rw [hbx] at hc
   split at hc
   ·rename_i e2; subst e2; cases hc
    exact .inr ⟨hblk, fun c hc => by cases hc⟩
   ·split at hc
    ·cases hc; exact .inr ⟨trivial, fun c hc => by cases hc⟩
    ·exact .inl ⟨hc, fun _ _ _ => rfl⟩
  ·intro c k β hc hr hβ
   rw [hbx] at hc
   rw [Gh.set_has] at hβ
   split at hc
   ·rename_i e2; rw [if_pos e2] at hβ
    have h5 := h.at_ok b _ β hb rfl (.inl (hl β hβ))
    exact ⟨.new (h5.1.1 hlb), h5.2⟩
   ·rename_i e2; rw [if_neg e2] at hβ
    split at hc
    ·cases hc; cases hr
    ·exact h.at_ok c k β hc hr hβ
  ·intro c c' k k' β hc hc' hr hr' hβ hβ'
   rw [hbx] at hc hc'
   rw [Gh.set_has] at hβ hβ'
   have old : ∀ c k, (if c = n then some (By.vec e (rows.take len)) else if c = b then some .gone else st.bx c) = some k → k.real = true → (if c = n then l = some β else G.has c β) → (c = n ∧ G.has b β) ∨ (c ≠ n ∧ c ≠ b ∧ st.bx c = some k ∧ G.has c β) := by
    intro c k hc hr hβ
    split at hc
    ·rename_i e2; rw [if_pos e2] at hβ; exact .inl ⟨e2, .inl (hl β hβ)⟩
    ·rename_i e2; rw [if_neg e2] at hβ
     split at hc
     ·cases hc; cases hr
     ·rename_i e3; exact .inr ⟨e2, e3, hc, hβ⟩
   rcases old c k hc hr hβ with ⟨h2, h3⟩ | ⟨h2, h3, h4, h5⟩ <;> rcases old c' k' hc' hr' hβ' with ⟨h2', h3'⟩ | ⟨h2', h3', h4', h5'⟩
   ·rw [h2, h2']
   ·exact (h3' (h.at_inj c' b _ _ β h4' hb hr' rfl h5' h3)).elim
   ·exact (h3 (h.at_inj c b _ _ β h4 hb hr rfl h5 h3')).elim
   ·exact h.at_inj c c' k k' β h4 h4' hr hr' h5 h5'
 refine ⟨G.set n l v, { h1 with env := ?_, live := ?_, blk := h1.blk, at_ok := h1.at_ok, at_inj := h1.at_inj, liveB := h1.liveB, nlt := h1.nlt, lent := h1.lent }⟩
 ·intro t d ht
  simp only [St.put] at ht
  split at ht
  ·rename_i e2; cases ht
   rw [e2, hv1]
   exact ⟨by simp [Gh.set], hv2⟩
  ·exact h1.env t d ht
 ·intro t d ht c hc
  simp only [St.put] at ht
  split at ht
  ·cases ht
   simp [D.names, E.names, C.names] at hc
   subst hc
   show (Bt st.bx [(c, .vec e (rows.take len)), (b, .gone)] c).isSome = true
   simp [Bt]
  ·exact h1.live t d ht c hc
end Go.Lift

/- Smaller operations: least and greatest, checks against nil, a part of an element, bytes and strings; maps of the call's own. No condition. -/
namespace Go.Lift
open Go.RowKit
variable {P : Program} {X : IC} {ops : Array Oper}
def PD (a b : Int) : Int := if b < a then b else a
def O7 (b : ByteArray) (i : Int) : Option Int := if 0 ≤ i then (b[i.toNat]?).map fun x => (x.toNat : Int) else none
theorem Pg {β : Type} {b : ByteArray} {i : Int} {f : Int → Option β} {r : β} (h : (O7 b i).bind f = some r) : ∃ x : UInt8, 0 ≤ i ∧ b[i.toNat]? = some x ∧ f (x.toNat : Int) = some r := by
 obtain ⟨x, h1, h2⟩ := bind_some h
 unfold O7 at h1
 split at h1
 ·rename_i h0
  cases hx : b[i.toNat]? with
  | none => rw [hx] at h1; cases h1
  | some y => rw [hx] at h1; cases h1; exact ⟨y, h0, rfl, h2⟩
 ·cases h1
def HP (xs : List Int) : ByteArray := xs.foldl (fun s n => s.push (UInt8.ofNat n.toNat)) ByteArray.empty
section run
variable {dr : Bool} {Q : St → Prop} {r i : Nat} {st : St} {log : List (Nat × CU)} {o : Oper} {gs : List (Operand × D)}
theorem TO {x y : Operand} {t t2 s : Nat} {k k2 : IntKind} {a0 b0 : Int} (hat : At st.env ops i X.n (.call ⟨.builtin .min, #[x, y], #[t, t2]⟩) s gs)
  (hx : opd st.env x = some (vD (.int k a0))) (hy : opd st.env y = some (vD (.int k2 b0)))
  (next : Bq P X ops dr Q r (i + 1) (CU.upd ⟨gs ++ [(x, vD (.int k a0)), (y, vD (.int k2 b0))], [], some s, some (vD (.int k (PD a0 b0))), [], []⟩ st) ((i, ⟨gs ++ [(x, vD (.int k a0)), (y, vD (.int k2 b0))], [], some s, some (vD (.int k (PD a0 b0))), [], []⟩) :: log)) : Bq P X ops dr Q (r + 1) i st log := by
 obtain ⟨o, ho, hop, hd, hn, hg, hgp⟩ := hat.out
 refine Bq.step next ⟨Aw.2 ⟨hgp, hx, hy, trivial⟩, trivial, trivial⟩ (LR.value ho hg rfl hd.symm (DG hd hn) ?_)
 intro G st a w hs hpre
 obtain ⟨hx, hy, _⟩ := (Aw.1 hpre.r).2
 have h1 : a.eval x = .int k a0 := EC (hs.opd hx : DF w G.S (a.eval x) (.val _))
 have h2 : a.eval y = .int k2 b0 := EC (hs.opd hy : DF w G.S (a.eval y) (.val _))
 refine ⟨.int k (PD a0 b0), w, G, ?_, hs, ?_⟩
 ·simp only [execOp, hop]
  refine F4 fun cs => ?_
  simp only [List.map_toArray, List.map_cons, List.map_nil, builtin, h1, h2]
  rfl
 ·rintro d ⟨⟩
  exact ⟨.val _ rfl, fun b hb => by cases hb⟩
theorem Oh {x : Operand} {s b k : Nat} (hat : At st.env ops i X.n (.nilCheck x) s gs) (hx : opd st.env x = some (.e (.one (.ptr b k))))
  (next : Bq P X ops dr Q r (i + 1) (CU.upd ⟨gs ++ [(x, .e (.one (.ptr b k)))], [], some s, some (.e (.one (.ptr b k))), [], []⟩ st) ((i, ⟨gs ++ [(x, .e (.one (.ptr b k)))], [], some s, some (.e (.one (.ptr b k))), [], []⟩) :: log)) : Bq P X ops dr Q (r + 1) i st log := by
 obtain ⟨o, ho, hop, hd, hn, hg, hgp⟩ := hat.out
 refine Bq.step next ⟨Aw.2 ⟨hgp, hx, trivial⟩, trivial, trivial⟩ (LR.value ho hg rfl hd.symm (DG hd hn) ?_)
 intro G st a w hs hpre
 obtain ⟨hx, _⟩ := (Aw.1 hpre.r).2
 obtain ⟨β, hβ, hv⟩ : EF P w G (a.eval x) (.ptr b k) := hs.opd hx
 refine ⟨.pointer (some ⟨β, k, none⟩), w, G, ?_, hs, ?_⟩
 ·simp only [execOp, hop, hv]; rfl
 ·rintro d ⟨⟩
  exact ⟨⟨β, hβ, rfl⟩, fun b' hb' => hs.opd_live hx b' hb'⟩
def Mb (P : Program) (t : TypeId) : Bool := match P.underlying t with | some .string => true | _ => false
theorem Qm {x y : Operand} {t s : Nat} {b : ByteArray} {k : IntKind} {n : Int} {c : UInt8} (hat : At st.env ops i X.n (.index t x y) s gs)
  (hx : opd st.env x = some (vD (.string b))) (hy : opd st.env y = some (vD (.int k n))) (ht : Mb P t = true) (h0 : 0 ≤ n) (hc : b[n.toNat]? = some c)
  (next : Bq P X ops dr Q r (i + 1) (CU.upd ⟨gs ++ [(x, vD (.string b)), (y, vD (.int k n))], [], some s, some (vD (.int .u8 (c.toNat : Int))), [], []⟩ st) ((i, ⟨gs ++ [(x, vD (.string b)), (y, vD (.int k n))], [], some s, some (vD (.int .u8 (c.toNat : Int))), [], []⟩) :: log)) : Bq P X ops dr Q (r + 1) i st log := by
 obtain ⟨o, ho, hop, hd, hn, hg, hgp⟩ := hat.out
 refine Bq.step next ⟨Aw.2 ⟨hgp, hx, hy, trivial⟩, trivial, trivial⟩ (LR.value ho hg rfl hd.symm (DG hd hn) ?_)
 intro G st a w hs hpre
 obtain ⟨hx, hy, _⟩ := (Aw.1 hpre.r).2
 have h1 : a.eval x = .string b := EC (hs.opd hx : DF w G.S (a.eval x) (.val _))
 have h2 : a.eval y = .int k n := EC (hs.opd hy : DF w G.S (a.eval y) (.val _))
 refine ⟨.int .u8 (c.toNat : Int), w, G, ?_, hs, ?_⟩
 ·simp only [execOp, hop, h1, h2]
  refine An (a := .int .u8 (c.toNat : Int)) (w1 := w) ?_ rfl
  unfold Mb at ht
  split at ht
  ·rename_i hu
   unfold Instr.index
   refine An (a := (k, n)) (w1 := w) rfl ?_
   refine An (AO hu w) ?_
   simp only [h0, if_true, hc]
   rfl
  ·cases ht
 ·rintro d ⟨⟩
  exact ⟨.val _ rfl, fun b hb => by cases hb⟩
def MR (P : Program) (s : TypeId) : Bool := match P.underlying s with | some (.slice e) => (match P.underlying e with | some (.int .u8) => true | _ => false) | _ => false
theorem Mc {w : World} {a : Addr} {len cap : Nat} {xs : List Int} (h : (loadCells a len).run P w = .ok (xs.map fun n => Value.int .u8 n).toArray w) : (Conv.bytesToString (.slice (some a) len cap)).run P w = .ok (.string (HP xs)) w := by
 unfold Conv.bytesToString
 refine An h ?_
 have key : ∀ (xs : List Int) (s : ByteArray), (forIn (m := Sem) (xs.map fun n => Value.int .u8 n) s (fun c r => (match c with
   | .int .u8 n => pure (ForInStep.yield (r.push (UInt8.ofNat n.toNat)))
   | _ => do stuck "bytesToString: byte expected" : Sem (ForInStep ByteArray)))).run P w = .ok (xs.foldl (fun s n => s.push (UInt8.ofNat n.toNat)) s) w := by
  intro xs
  induction xs with
  | nil => intro s; rfl
  | cons x xs ih =>
   intro s
   rw [List.map_cons, List.forIn_cons]
   refine An (a := ForInStep.yield (s.push (UInt8.ofNat x.toNat))) (w1 := w) rfl ?_
   exact ih _
 have h2 := key xs ByteArray.empty
 rw [← List.forIn_toArray] at h2
 refine An (a := HP xs) (w1 := w) ?_ rfl
 exact h2
theorem P8 {x : Operand} {t t2 s : Nat} {d : D} {rb : List (Nat × By)} {rows : List (List T)} (xs : List Int) (hat : At st.env ops i X.n (.convert t t2 x) s gs)
  (hx : opd st.env x = some d) (hS : L3 d rb 1 rows) (hb : GX st.bx rb) (hr : rows = xs.map fun n => [T.val (.int .u8 n)]) (ht : MR P t = true) (ht2 : Mb P t2 = true)
  (next : Bq P X ops dr Q r (i + 1) (CU.upd ⟨gs ++ [(x, d)], rb, some s, some (vD (.string (HP xs))), [], []⟩ st) ((i, ⟨gs ++ [(x, d)], rb, some s, some (vD (.string (HP xs))), [], []⟩) :: log)) : Bq P X ops dr Q (r + 1) i st log := by
 obtain ⟨o, ho, hop, hd, hn, hg, hgp⟩ := hat.out
 refine Bq.step next ⟨Aw.2 ⟨hgp, hx, trivial⟩, hb, trivial⟩ (LR.value ho hg rfl hd.symm (DG hd hn) ?_)
 intro G st a w hs hpre
 obtain ⟨hx, _⟩ := (Aw.1 hpre.r).2
 have hb := hpre.b
 obtain ⟨p, cap, h1, h2⟩ := hs.srcW hx hS hb
 subst hr
 refine ⟨.string (HP xs), w, G, ?_, hs, ?_⟩
 ·simp only [execOp, hop]
  refine An (a := .string (HP xs)) (w1 := w) ?_ rfl
  unfold MR at ht
  split at ht
  ·rename_i e hu
   split at ht
   ·rename_i hu2
    unfold Mb at ht2
    split at ht2
    ·rename_i hu3
     unfold convert
     refine An (AO hu w) ?_
     refine An (AO hu3 w) ?_
     rw [h1]
     simp only [List.length_map]
     refine An (AO hu2 w) ?_
     rcases h2 with h2 | ⟨β, off, arr, el, fz, h3, h4, h5⟩
     ·have hx0 : xs = [] := by simpa using h2
      subst hx0
      cases p with
      | none => rfl
      | some q => exact Mc (xs := []) (by unfold loadCells loadCellsFrom; rfl)
     ·subst h3
      refine Mc ?_
      have hsz : off + xs.length ≤ arr.size := by have := h5.1; simpa using this
      rw [GP h4 hsz]
      congr 1
      apply congrArg List.toArray
      apply List.ext_getElem?
      intro j
      rw [List.getElem?_map, List.getElem?_map]
      by_cases hj : j < xs.length
      ·have hxj : xs[j]? = some xs[j] := by simp [hj]
       rw [List.getElem?_range hj, hxj]
       simp only [Option.map_some, Option.some.injEq]
       have hrow : (xs.map fun n => [T.val (.int .u8 n)])[j]? = some [T.val (.int .u8 xs[j])] := by rw [List.getElem?_map, hxj]; rfl
       have := h5.2.2 j _ 0 _ hrow rfl
       rw [Nat.mul_one, Nat.add_zero] at this
       exact EC this
      ·rw [List.getElem?_eq_none (by simp; omega), List.getElem?_eq_none (by omega)]; rfl
    ·cases ht2
   ·cases ht
  ·cases ht
 ·rintro d ⟨⟩
  exact ⟨.val _ rfl, fun b hb => by cases hb⟩
end run
section maps
variable {K V : Type}
def JJ [BEq K] (k : K) : List (K × V) → Option V
 | [] => none
 | p :: r => if k == p.1 then some p.2 else JJ k r
def Ke [BEq K] (k : K) (v : V) : List (K × V) → List (K × V)
 | [] => [(k, v)]
 | p :: r => if k == p.1 then (k, v) :: r else p :: Ke k v r
def H3 (kv : K → Value) (vt : V → T) (m : List (K × V)) : List (Value × T) := m.map fun p => (kv p.1, vt p.2)
end maps
structure PS {K : Type} [BEq K] (P : Program) (t : TypeId) (kv : K → Value) : Prop where
 ty : ∃ kt el kd, P.underlying t = some (.map kt el) ∧ P.underlying kt = some kd ∧ (∀ a b : K, Instr.sameNow kd (kv a) (kv b) = some (a == b)) ∧ (∀ (e : Bool) (n : Nat) (v : K) (w : World), (Instr.checkKey e (n + 1) kt (kv v)).run P w = .ok () w)
 same : ∀ a b : K, (a == b) = true → Instr.sameBits 10000 (kv b) (kv a) = true
theorem IQ {K V : Type} [BEq K] {kd : TypeDesc} {kv : K → Value} (h : ∀ a b : K, Instr.sameNow kd (kv a) (kv b) = some (a == b)) (k : K) : ∀ (m : List (K × V)) (es : List MapEntry) (i : Nat), es.length = m.length → (∀ (j : Nat) (p : K × V), m[j]? = some p → ∃ e : MapEntry, es[j]? = some e ∧ e.key = kv p.1) →
  (JJ k m = none ∧ Instr.findNow kd (kv k) es i = some none) ∨ ∃ j p e, m[j]? = some p ∧ es[j]? = some e ∧ (k == p.1) = true ∧ JJ k m = some p.2 ∧ Instr.findNow kd (kv k) es i = some (some (i + j, e.val)) ∧ (∀ v, Ke k v m = m.set j (k, v))
 | [], [], i, _, _ => .inl ⟨rfl, rfl⟩
 | p :: m, e :: es, i, hl, hp => by
  obtain ⟨e0, h0, h1⟩ := hp 0 p rfl
  simp at h0; subst h0
  have h2 := h k p.1
  by_cases hk : (k == p.1) = true
  ·refine .inr ⟨0, p, e, rfl, rfl, hk, ?_, ?_, fun v => ?_⟩
   ·simp only [JJ, hk, if_true]
   ·simp only [Instr.findNow, h1, h2, hk]; rfl
   ·simp only [Ke, hk, if_true]; rfl
  ·have hk' : (k == p.1) = false := by simpa using hk
   rcases IQ h k m es (i + 1) (by simpa using hl) (fun j q hq => hp (j + 1) q (by simpa using hq)) with ⟨g1, g2⟩ | ⟨j, q, e', g1, g2, g3, g4, g5, g6⟩
   ·refine .inl ⟨?_, ?_⟩
    ·simp only [JJ, hk']; exact g1
    ·simp only [Instr.findNow, h1, h2, hk']; exact g2
   ·refine .inr ⟨j + 1, q, e', by simpa using g1, by simpa using g2, g3, ?_, ?_, fun v => ?_⟩
    ·simp only [JJ, hk']; exact g4
    ·simp only [Instr.findNow, h1, h2, hk']; rw [g5]; simp [Nat.add_assoc, Nat.add_comm 1]
    ·simp only [Ke, hk']; rw [g6 v]; rfl
theorem Kh {K V : Type} [BEq K] (k : K) (v : V) : ∀ {m : List (K × V)}, JJ k m = none → Ke k v m = m ++ [(k, v)]
 | [], _ => rfl
 | p :: m, h => by
  simp only [JJ] at h
  split at h
  ·cases h
  ·rename_i hk
   simp only [Ke]; rw [if_neg hk, Kh k v h]; rfl
section run
variable {dr : Bool} {Q : St → Prop} {r i : Nat} {st : St} {log : List (Nat × CU)} {o : Oper} {gs : List (Operand × D)}
theorem Pi {t s : Nat} (hat : At st.env ops i X.n (.makeMap t none) s gs) (hnew : st.bx s = none)
  (next : Bq P X ops dr Q r (i + 1) (CU.upd ⟨gs, [], some s, some (.e (.one (.mref s))), [(s, .mp [])], [s]⟩ st) ((i, ⟨gs, [], some s, some (.e (.one (.mref s))), [(s, .mp [])], [s]⟩) :: log)) : Bq P X ops dr Q (r + 1) i st log := by
 obtain ⟨o, ho, hop, hd, hn, hg, hgp⟩ := hat.out
 refine Bq.step next ⟨hgp, trivial, hnew, trivial⟩ (LR.value (rs := []) ho hg (by simp) hd.symm (DG hd hn) ?_)
 intro G st a w hs hpre
 have hnew := hpre.n.1
 have key := hs.newB (.map #[] 0) s (.mp []) undef (hs.nl hn) hnew
  ⟨w.heap.size, #[], 0, by simp [Gh.set], by rw [DT, if_pos rfl], rfl, fun i x h => by simp at h⟩ (fun c hc => by cases hc)
 refine ⟨.map (some w.heap.size), _, _, ?_, key, ?_⟩
 ·simp only [execOp, hop]
  exact An (a := .map (some w.heap.size)) (w1 := w.alloc (.map #[] 0)) rfl rfl
 ·rintro d ⟨⟩
  refine ⟨⟨w.heap.size, by simp [Gh.set], rfl⟩, fun b hb => ?_⟩
  simp [D.names, E.names, C.names] at hb
  subst hb; simp [Bt]
theorem Dn.mpAt {G : Gh} {a : Act} {w : World} (hs : Dn P X G st a w) {x : Operand} {b : Nat} {es : List (Value × T)} (hx : Lift.opd st.env x = some (.e (.one (.mref b)))) (hb : st.bx b = some (.mp es)) :
  ∃ β arr clock, a.eval x = .map (some β) ∧ G.loc b = some β ∧ w.heap[β]? = some (.map arr clock) ∧ arr.size = es.length ∧ ∀ (i : Nat) (y : Value × T), es[i]? = some y → ∃ m : MapEntry, arr[i]? = some m ∧ m.key = y.1 ∧ DF w G.S m.val y.2 := by
 obtain ⟨β, hβ, hv⟩ : EF P w G (a.eval x) (.mref b) := hs.opd hx
 obtain ⟨β', arr, clock, h1, h2, h3, h4⟩ := hs.blk b _ hb
 rw [hβ] at h1; cases h1
 exact ⟨β, arr, clock, hv, hβ, h2, h3, h4⟩
theorem Io {β : Nat} {arr : Array MapEntry} {clock : Nat} {w : World} (h : w.heap[β]? = some (.map arr clock)) : (getObj β).run P w = .ok (.map arr clock) w := by
 simp [getObj, Sem.run, h]
theorem Lv {β : Nat} {arr : Array MapEntry} {clock : Nat} {o : Obj} {w : World} (h : w.heap[β]? = some (.map arr clock)) : (setObj β o).run P w = .ok () (F6 w β o) := by
 simp [setObj, Sem.run, h, F6]
theorem HN {K V : Type} [BEq K] {kt : TypeId} {kd : TypeDesc} {kv : K → Value} {k : K} {es : List MapEntry} {r : Option (Nat × Value)} {w : World} (hu : P.underlying kt = some kd) (h : Instr.findNow kd (kv k) es 0 = some r) : (Instr.findKey kt (kv k) es).run P w = .ok r w := by
 unfold Instr.findKey
 refine An (AO hu w) ?_
 rw [h]; rfl
theorem Qi {K V : Type} [BEq K] {t s b el : Nat} {x y : Operand} {c : Bool} {z : Value} {kv : K → Value} {vt : V → T} {m : List (K × V)} {k : K} {dv v0 : V} (hat : At st.env ops i X.n (.lookup t x y c) s gs)
  (hx : opd st.env x = some (.e (.one (.mref b)))) (hy : opd st.env y = some (vD (kv k))) (hb : st.bx b = some (.mp (H3 kv vt m))) (hk : PS P t kv) (hel : (match P.underlying t with | some (.map _ e) => e == el | _ => false) = true) (hz : D9 P el = some z) (hzv : vt dv = .val z) (hz1 : Gp z = true) (hv0 : (JJ k m).getD dv = v0)
  (next : Bq P X ops dr Q r (i + 1) (CU.upd ⟨gs ++ [(x, .e (.one (.mref b))), (y, vD (kv k))], [(b, .mp (H3 kv vt m))], some s, some (if c then .tup [.one (.pure (vt v0)), .one (.pure (.val (.bool (JJ k m).isSome)))] else one (vt v0)), [], []⟩ st) ((i, ⟨gs ++ [(x, .e (.one (.mref b))), (y, vD (kv k))], [(b, .mp (H3 kv vt m))], some s, some (if c then .tup [.one (.pure (vt v0)), .one (.pure (.val (.bool (JJ k m).isSome)))] else one (vt v0)), [], []⟩) :: log)) : Bq P X ops dr Q (r + 1) i st log := by
 obtain ⟨o, ho, hop, hd, hn, hg, hgp⟩ := hat.out
 refine Bq.step next ⟨Aw.2 ⟨hgp, hx, hy, trivial⟩, ⟨hb, trivial⟩, trivial⟩ (LR.value ho hg rfl hd.symm (DG hd hn) ?_)
 intro G st a w hs hpre
 obtain ⟨hx, hy, _⟩ := (Aw.1 hpre.r).2
 have hb := hpre.b.1
 obtain ⟨β, arr, clock, h1, h2, h3, h4, h5⟩ := hs.mpAt hx hb
 have hY : a.eval y = kv k := EC (hs.opd hy : DF w G.S (a.eval y) (.val _))
 obtain ⟨kt, el', kd, u1, u2, u3, u4⟩ := hk.ty
 rw [u1] at hel
 have hel' : el' = el := by simpa using hel
 subst hel'
 have hes : ∀ (j : Nat) (p : K × V), m[j]? = some p → ∃ e : MapEntry, arr.toList[j]? = some e ∧ e.key = kv p.1 ∧ DF w G.S e.val (vt p.2) := fun j p hp => by
  obtain ⟨e, e1, e2, e3⟩ := h5 j (kv p.1, vt p.2) (by unfold H3; rw [List.getElem?_map, hp]; rfl)
  exact ⟨e, by simpa using e1, e2, e3⟩
 have hfin : ∃ v, (Instr.lookup t (.map (some β)) (kv k) c).run P w = .ok (if c then .tuple #[v, .bool (JJ k m).isSome] else v) w ∧ DF w G.S v (vt v0) := by
  rcases IQ (V := V) u3 k m arr.toList 0 (by simp [h4, H3]) (fun j p hp => by obtain ⟨e, e1, e2, _⟩ := hes j p hp; exact ⟨e, e1, e2⟩) with ⟨g1, g2⟩ | ⟨j, q, e, g1, g2, g3, g4, g5, _⟩
  ·refine ⟨z, ?_, ?_⟩
   ·rw [g1]
    unfold Instr.lookup
    refine An (AO u1 w) ?_
    refine An (Io h3) ?_
    refine An (a := arr) (w1 := w) rfl ?_
    refine An (u4 _ _ _ _) ?_
    refine An (HN (V := V) u2 g2) ?_
    refine An (EU hz w) ?_
    exact An (a := (z, false)) (w1 := w) rfl rfl
   ·rw [← hv0, g1, Option.getD_none, hzv]; exact .val _ hz1
  ·refine ⟨e.val, ?_, ?_⟩
   ·rw [g4]
    unfold Instr.lookup
    refine An (AO u1 w) ?_
    refine An (Io h3) ?_
    refine An (a := arr) (w1 := w) rfl ?_
    refine An (u4 _ _ _ _) ?_
    refine An (HN (V := V) u2 g5) ?_
    exact An (a := (e.val, true)) (w1 := w) rfl rfl
   ·obtain ⟨e', e1, _, e3⟩ := hes j q g1
    rw [g2] at e1; cases e1
    rw [← hv0, g4]; exact e3
 obtain ⟨v, hv1, hv2⟩ := hfin
 refine ⟨(if c then .tuple #[v, .bool (JJ k m).isSome] else v), w, G, ?_, hs, ?_⟩
 ·simp only [execOp, hop, h1, hY]
  exact An hv1 rfl
 ·rintro d hd'
  cases c with
  | false => cases hd'; exact ⟨hv2, fun b hb => by cases hb⟩
  | true =>
   cases hd'
   refine ⟨⟨_, rfl, rfl, fun j x hj => ?_⟩, fun b hb => by simp [D.names, Ki, E.names, C.names] at hb⟩
   match j, hj with
   | 0, hj => cases hj; exact hv2
   | 1, hj => cases hj; exact .val _ rfl
theorem Ny {K V : Type} [BEq K] {t b : Nat} {x y u : Operand} {kv : K → Value} {vt : V → T} {m m' : List (K × V)} {k : K} {v : V} {op : Op} (hat : Nt ops i = some op) (hop' : op = .mapUpdate t x y u ∨ op = .insert t x y u)
  (hx : opd st.env x = some (.e (.one (.mref b)))) (hy : opd st.env y = some (vD (kv k))) (hu : opd st.env u = some (one (vt v))) (hb : st.bx b = some (.mp (H3 kv vt m))) (hk : PS P t kv) (hm : Ke k v m = m')
  (next : Bq P X ops dr Q r (i + 1) (CU.upd ⟨[(x, .e (.one (.mref b))), (y, vD (kv k)), (u, one (vt v))], [(b, .mp (H3 kv vt m))], none, none, [(b, .mp (H3 kv vt m'))], []⟩ st) ((i, ⟨[(x, .e (.one (.mref b))), (y, vD (kv k)), (u, one (vt v))], [(b, .mp (H3 kv vt m))], none, none, [(b, .mp (H3 kv vt m'))], []⟩) :: log)) : Bq P X ops dr Q (r + 1) i st log := by
 obtain ⟨o, ho, hop, hd, hgn⟩ := KZ hat
 have hg : PY ops o [] := .none hgn
 refine Bq.step next ⟨⟨hx, hy, hu, trivial⟩, ⟨hb, trivial⟩, trivial⟩ (LR.skip (rs := [(x, .e (.one (.mref b))), (y, vD (kv k)), (u, one (vt v))]) ho hg rfl hd rfl ?_)
 intro G st a w hs hpre
 obtain ⟨hx, hy, hu, _⟩ := hpre.r
 have hb := hpre.b.1
 subst hm
 obtain ⟨β, arr, clock, h1, h2, h3, h4, h5⟩ := hs.mpAt hx hb
 have hY : a.eval y = kv k := EC (hs.opd hy : DF w G.S (a.eval y) (.val _))
 have hU : DF w G.S (a.eval u) (vt v) := hs.opd hu
 obtain ⟨kt, el', kd, u1, u2, u3, u4⟩ := hk.ty
 have hes : ∀ (j : Nat) (p : K × V), m[j]? = some p → ∃ e : MapEntry, arr.toList[j]? = some e ∧ e.key = kv p.1 ∧ DF w G.S e.val (vt p.2) := fun j p hp => by
  obtain ⟨e, e1, e2, e3⟩ := h5 j (kv p.1, vt p.2) (by unfold H3; rw [List.getElem?_map, hp]; rfl)
  exact ⟨e, by simpa using e1, e2, e3⟩
 have hat := hs.at_ok b _ β hb rfl (.inl h2)
 have hml : arr.size = m.length := by rw [h4]; simp [H3]
 have fin : ∀ arr' clock', arr'.size = (Ke k v m).length → (∀ (j : Nat) (p : K × V), (Ke k v m)[j]? = some p → ∃ e : MapEntry, arr'[j]? = some e ∧ e.key = kv p.1 ∧ DF w G.S e.val (vt p.2)) →
   Dn P X G ⟨st.env, Bt st.bx [(b, .mp (H3 kv vt (Ke k v m)))]⟩ a (F6 w β (.map arr' clock')) := by
  intro arr' clock' k1 k2
  have hS : ∀ γ, G.S γ → (F6 w β (.map arr' clock')).heap[γ]? = w.heap[γ]? := fun γ hγ => by
   rw [D1, if_neg (fun (h : γ = β ∧ β < w.heap.size) => hat.2.2 (h.1 ▸ hγ))]
  refine hs.setB (b := b) (k0 := .mp (H3 kv vt m)) hb rfl rfl (.inl h2) ⟨β, arr', clock', h2, by rw [D1, if_pos ⟨rfl, hat.2.1⟩], by rw [k1]; simp [H3], fun j y hy => ?_⟩ (fun c hc => by cases hc)
  unfold H3 at hy
  rw [List.getElem?_map] at hy
  cases hp : (Ke k v m)[j]? with
  | none => rw [hp] at hy; cases hy
  | some p =>
   rw [hp] at hy; cases hy
   obtain ⟨e, e1, e2, e3⟩ := k2 j p hp
   exact ⟨e, e1, e2, e3.mono hS fun _ h => h⟩
 have hrun : ∀ w', (Instr.mapUpdate t (.map (some β)) (kv k) (a.eval u)).run P w = .ok () w' → (execOp a.eval o).run P w = .ok .skip w' := fun w' h => by
  rcases hop' with e | e
  ·simp only [execOp, hop, e, h1, hY]; exact An h rfl
  ·simp only [execOp, hop, e, h1, hY]; exact An h rfl
 rcases IQ (V := V) u3 k m arr.toList 0 (by simp [hml]) (fun j p hp => by obtain ⟨e, e1, e2, _⟩ := hes j p hp; exact ⟨e, e1, e2⟩) with ⟨g1, g2⟩ | ⟨j, q, e, g1, g2, g3, g4, g5, g6⟩
 ·refine ⟨_, G, hrun _ ?_, fin (arr.push { key := kv k, val := a.eval u, born := clock }) (clock + 1) ?_ ?_⟩
  ·unfold Instr.mapUpdate
   refine An (AO u1 w) ?_
   refine An (Io h3) ?_
   refine An (u4 _ _ _ _) ?_
   refine An (HN (V := V) u2 g2) ?_
   exact Lv h3
  ·rw [Kh k v g1]; simp [hml]
  ·intro j p hp
   rw [Kh k v g1] at hp
   by_cases hj : j < m.length
   ·rw [List.getElem?_append_left hj] at hp
    obtain ⟨e, e1, e2, e3⟩ := hes j p hp
    refine ⟨e, ?_, e2, e3⟩
    rw [Array.getElem?_push, if_neg (by omega)]
    simpa using e1
   ·rw [List.getElem?_append_right (by omega)] at hp
    have hj0 : j - m.length = 0 := by have := AM hp; simp at this; omega
    rw [hj0] at hp; cases hp
    exact ⟨{ key := kv k, val := a.eval u, born := clock }, by rw [Array.getElem?_push, if_pos (by omega)], rfl, hU⟩
 ·have hjm := AM g1
  have hje : arr[j]? = some e := by simpa using g2
  have hek : e.key = kv q.1 := by obtain ⟨e', e1, e2, _⟩ := hes j q g1; rw [g2] at e1; cases e1; exact e2
  refine ⟨_, G, hrun _ ?_, fin (arr.modify j fun e => { e with key := kv k, val := a.eval u }) clock ?_ ?_⟩
  ·unfold Instr.mapUpdate
   refine An (AO u1 w) ?_
   refine An (Io h3) ?_
   refine An (u4 _ _ _ _) ?_
   refine An (HN (V := V) u2 g5) ?_
   simp only [Nat.zero_add]
   refine An (a := kv k) (w1 := w) ?_ (Lv h3)
   rw [hje]
   simp only [Option.map_some, Option.getD_some]
   unfold Instr.keyThatStays
   rw [hek, hk.same k q.1 g3]; rfl
  ·rw [g6 v]; simp [hml]
  ·intro j' p hp
   rw [g6 v] at hp
   rw [Array.getElem?_modify]
   rcases K1 hp with ⟨rfl, rfl⟩ | ⟨hne, hp⟩
   ·rw [if_pos rfl, hje]
    exact ⟨_, rfl, rfl, hU⟩
   ·rw [if_neg (fun h => hne h.symm)]
    obtain ⟨e', e1, e2, e3⟩ := hes j' p hp
    exact ⟨e', by simpa using e1, e2, e3⟩
end run
end Go.Lift

/- Slices within slices that are nobody else's: taken out, put back, appended, given over to sharing. No condition. -/
namespace Go.Lift
open Go.RowKit
variable {P : Program} {X : IC} {ops : Array Oper}
section run
variable {dr : Bool} {Q : St → Prop} {r i : Nat} {st : St} {log : List (Nat × CU)} {o : Oper} {gs : List (Operand × D)}
def U5 : Ow → Bool
 | .s => true
 | _ => false
end run
def Qy (e : Nat) (cols : List Ow) (rows : List (List T)) : By := if cols.all U5 then .vec e rows else .dvec e cols rows
section run
variable {dr : Bool} {Q : St → Prop} {r i : Nat} {st : St} {log : List (Nat × CU)} {o : Oper} {gs : List (Operand × D)}
end run
end Go.Lift

/- Slices within slices: append, and giving over to sharing. No condition. -/
namespace Go.Lift
open Go.RowKit
variable {P : Program} {X : IC} {ops : Array Oper}
section run
variable {dr : Bool} {Q : St → Prop} {r i : Nat} {st : St} {log : List (Nat × CU)} {o : Oper} {gs : List (Operand × D)}
structure Ml (w : World) (S : Nat → Prop) (e : Nat) (cols : List Ow) (rows : List (List T)) (Rf : Nat → Nat → Nat → Prop) (f : Nat → Value) : Prop where
 len : ∀ (i : Nat) (row : List T), rows[i]? = some row → row.length = e
 cell : ∀ (i : Nat) (row : List T) (j : Nat) (t : T), rows[i]? = some row → row[j]? = some t → Pw w S (cols.getD j .s) (Rf i j) (f (i * e + j)) t
 dis : ∀ i j i' j' γ, Rf i j γ → Rf i' j' γ → i = i' ∧ j = j'
theorem Ml.ones {w : World} {S : Nat → Prop} {e : Nat} {cols : List Ow} {rows : List (List T)} {Rf : Nat → Nat → Nat → Prop} {arr : Array Value} (h : Ml w S e cols rows Rf (AC arr)) (hs : arr.size = rows.length * e) : ∀ u, u ∈ arr.toList → Gp u = true := by
 intro u hu
 obtain ⟨k, hk⟩ := List.mem_iff_getElem?.1 hu
 have hk' : arr[k]? = some u := by simpa using hk
 have hlt : k < arr.size := by
  rcases Nat.lt_or_ge k arr.size with h' | h'
  ·exact h'
  ·rw [Array.getElem?_eq_none h'] at hk'; cases hk'
 rcases Nat.eq_zero_or_pos e with e0 | e0
 ·rw [e0, Nat.mul_zero] at hs; omega
 have h1 : k / e < rows.length := (Nat.div_lt_iff_lt_mul e0).2 (by omega)
 have h2 : k % e < e := Nat.mod_lt _ e0
 have hrow : rows[k / e]? = some rows[k / e] := by simp [h1]
 have hlen := h.len _ _ hrow
 have hcell : (rows[k / e])[k % e]? = some ((rows[k / e])[k % e]'(by omega)) := by simp [show k % e < rows[k / e].length from by omega]
 have := (h.cell _ _ _ _ hrow hcell).one
 rw [show k / e * e + k % e = k from by rw [Nat.mul_comm]; exact Nat.div_add_mod k e] at this
 simpa [AC, hk'] using this
theorem Ml.app {w w' : World} {S : Nat → Prop} {e : Nat} {cols : List Ow} {rows rows2 : List (List T)} {Rf Rf2 : Nat → Nat → Nat → Prop} {f f2 g : Nat → Value} (h1 : Ml w S e cols rows Rf f) (h2 : Ml w S e cols rows2 Rf2 f2)
  (hx : ∀ i j i' j' γ, Rf i j γ → Rf2 i' j' γ → False) (hg1 : ∀ j, j < rows.length * e → g j = f j) (hg2 : ∀ j, j < rows2.length * e → g (rows.length * e + j) = f2 j)
  (hw : ∀ γ, S γ ∨ (∃ i j, Rf i j γ ∨ Rf2 i j γ) → w'.heap[γ]? = w.heap[γ]?) : Ml w' S e cols (rows ++ rows2) (fun i j γ => if i < rows.length then Rf i j γ else Rf2 (i - rows.length) j γ) g := by
 have hlen : ∀ (i : Nat) (row : List T), (rows ++ rows2)[i]? = some row → row.length = e := fun i row hi => by
  rcases Nat.lt_or_ge i rows.length with h | h
  ·rw [List.getElem?_append_left h] at hi; exact h1.len i row hi
  ·rw [List.getElem?_append_right h] at hi; exact h2.len _ row hi
 refine ⟨hlen, fun i row j t hi hj => ?_, fun i j i' j' γ hγ hγ' => ?_⟩
 ·have hj' := AM hj
  have he := hlen i row hi
  rcases Nat.lt_or_ge i rows.length with h | h
  ·rw [List.getElem?_append_left h] at hi
   have hle : i * e + e ≤ rows.length * e := by rw [← Nat.succ_mul]; exact Nat.mul_le_mul_right e h
   rw [hg1 _ (by omega)]
   exact (h1.cell i row j t hi hj).mono (fun γ hγ => hw γ (hγ.imp id fun hr => ⟨i, j, .inl hr⟩)) (fun _ h => h) (fun γ hγ => by rw [if_pos h]; exact hγ)
  ·rw [List.getElem?_append_right h] at hi
   have hi2 := AM hi
   have hle : (i - rows.length) * e + e ≤ rows2.length * e := by rw [← Nat.succ_mul]; exact Nat.mul_le_mul_right e hi2
   have hsplit : i * e + j = rows.length * e + ((i - rows.length) * e + j) := by
    rw [← Nat.add_assoc, ← Nat.add_mul, show rows.length + (i - rows.length) = i from by omega]
   rw [hsplit, hg2 _ (by omega)]
   exact (h2.cell _ row j t hi hj).mono (fun γ hγ => hw γ (hγ.imp id fun hr => ⟨_, j, .inr hr⟩)) (fun _ h => h) (fun γ hγ => by rw [if_neg (by omega)]; exact hγ)
 ·split at hγ <;> split at hγ'
  ·exact h1.dis i j i' j' γ hγ hγ'
  ·exact (hx _ _ _ _ γ hγ hγ').elim
  ·exact (hx _ _ _ _ γ hγ' hγ).elim
  ·have := h2.dis _ j _ j' γ hγ hγ'
   exact ⟨by omega, this.2⟩
end run
end Go.Lift

/- The rules for parts of own slices at typed lists. No condition. -/
namespace Go.Lift
open Go.RowKit
variable {P : Program} {X : IC} {ops : Array Oper}
theorem GU {α : Type} (f : α → List T) (b e : Nat) (xs : List α) : KT (.e (.one (.own b))) b e (xs.map f) 0 xs.length := by
 have := KT.own b e (xs.map f)
 rwa [List.length_map] at this
theorem Ks {α : Type} (f : α → List T) (b e lo len : Nat) (xs : List α) (h : lo + len ≤ xs.length) : KT (.e (.one (.view b e lo len))) b e (xs.map f) lo len := .view b e _ lo len (by simpa using h)
theorem O8 {α : Type} (f : α → List T) (b e lo len : Nat) (xs : List α) (h : lo + len ≤ xs.length) : L3 (.e (.one (.view b e lo len))) [(b, .vec e (xs.map f))] e (((xs.drop lo).take len).map f) := by
 have := L3.view b e (xs.map f) lo len (by simpa using h)
 rwa [← List.map_drop, ← List.map_take] at this
theorem PQ {α : Type} (f : α → List T) (b e : Nat) (xs : List α) : L3 (.e (.one (.own b))) [(b, .vec e (xs.map f))] e (xs.map f) := .of (.own _ _ _)
theorem Rq {α : Type} (f : α → List T) (e : Nat) (xs : List α) (h : ∀ x, (f x).length = e) : L3 (one (.sl (xs.map f))) [] e (xs.map f) := .of (.sl _ _ (NH h xs))
section run
variable {dr : Bool} {Q : St → Prop} {r i : Nat} {st : St} {log : List (Nat × CU)} {o : Oper} {gs : List (Operand × D)}
theorem Hx {α : Type} (f : α → List T) (xs : List α) {x : Operand} {t el s e l h b lo0 len lo1 len1 : Nat} {lo hi : Option Operand} {rl rh : List (Operand × D)} {d : D} (hat : At st.env ops i X.n (.slice t x lo hi none) s gs)
  (hx : opd st.env x = some d) (hD : KT d b e (xs.map f) lo0 len) (hb : st.bx b = some (.vec e (xs.map f))) (ht : sliceB P t el = true) (he : GW P el e = true) (hlo : QD lo 0 l rl) (hhi : QD hi len h rh) (h1 : Fk st.env rl) (h2 : Fk st.env rh) (hlh : l ≤ h) (hhl : lo0 + h ≤ xs.length) (e1 : lo0 + l = lo1) (e2 : h - l = len1)
  (next : Bq P X ops dr Q r (i + 1) (CU.upd ⟨gs ++ ((x, d) :: (rl ++ rh)), [(b, .vec e (xs.map f))], some s, some (.e (.one (.view b e lo1 len1))), [], []⟩ st) ((i, ⟨gs ++ ((x, d) :: (rl ++ rh)), [(b, .vec e (xs.map f))], some s, some (.e (.one (.view b e lo1 len1))), [], []⟩) :: log)) : Bq P X ops dr Q (r + 1) i st log := by
 subst e1; subst e2
 exact PE hat hx hD hb ht he hlo hhi h1 h2 hlh (by simpa using hhl) next
theorem O1 {α : Type} (f : α → List T) (xs ys : List α) {x y : Operand} {t t2 el s e b lo len : Nat} {d d2 : D} {rb2 : List (Nat × By)} (hat : At st.env ops i X.n (.call ⟨.builtin .copy, #[x, y], #[t, t2]⟩) s gs)
  (hx : opd st.env x = some d) (hD : KT d b e (xs.map f) lo len) (hb : st.bx b = some (.vec e (xs.map f))) (hy : opd st.env y = some d2) (hS : L3 d2 rb2 e (ys.map f)) (hb2 : GX st.bx rb2) (ht : sliceB P t el = true) (he : GW P el e = true)
  (next : Bq P X ops dr Q r (i + 1) (CU.upd ⟨gs ++ [(x, d), (y, d2)], (b, .vec e (xs.map f)) :: rb2, some s, some (vD (.int .i64 ((Nat.min ys.length len : Nat) : Int))), [(b, .vec e ((H1 xs lo (ys.take (Nat.min ys.length len))).map f))], []⟩ st) ((i, ⟨gs ++ [(x, d), (y, d2)], (b, .vec e (xs.map f)) :: rb2, some s, some (vD (.int .i64 ((Nat.min ys.length len : Nat) : Int))), [(b, .vec e ((H1 xs lo (ys.take (Nat.min ys.length len))).map f))], []⟩) :: log)) : Bq P X ops dr Q (r + 1) i st log := by
 have hl : (ys.map f).length = ys.length := List.length_map _
 refine Se hat hx hD hb hy hS hb2 ht he (rows' := (H1 xs lo (ys.take (Nat.min ys.length len))).map f) ?_ ?_
 ·rw [hl, ← List.map_take, O6]
 ·rw [hl]; exact next
theorem N1 {α : Type} (f : α → List T) (xs : List α) (z0 : α) {x : Operand} {t el b e lo len : Nat} {z : Value} {zs : List Value} {d : D} (hop0 : Nt ops i = some (.call ⟨.builtin .clear, #[x], #[t]⟩))
  (hx : opd st.env x = some d) (hD : KT d b e (xs.map f) lo len) (hb : st.bx b = some (.vec e (xs.map f))) (ht : sliceB P t el = true) (hz : D9 P el = some z) (hzs : z.cells.toList = zs) (hz1 : zs.all Gp = true) (hze : zs.length = e) (hf : (zs.map fun v => (T.of v).nrm) = f z0)
  (next : Bq P X ops dr Q r (i + 1) (CU.upd ⟨[(x, d)], [(b, .vec e (xs.map f))], none, none, [(b, .vec e ((H1 xs lo (List.replicate len z0)).map f))], []⟩ st) ((i, ⟨[(x, d)], [(b, .vec e (xs.map f))], none, none, [(b, .vec e ((H1 xs lo (List.replicate len z0)).map f))], []⟩) :: log)) : Bq P X ops dr Q (r + 1) i st log := by
 refine PU hop0 hx hD hb ht hz hzs hz1 hze (rows' := (H1 xs lo (List.replicate len z0)).map f) ?_ next
 rw [hf, ← O6]; simp
theorem Q6 {x : Operand} {s t el b e lo len : Nat} (hat : At st.env ops i X.n (.call ⟨.builtin .len, #[x], #[t]⟩) s gs)
  (hx : opd st.env x = some (.e (.one (.view b e lo len)))) (ht : sliceB P t el = true)
  (next : Bq P X ops dr Q r (i + 1) (CU.upd ⟨gs ++ [(x, .e (.one (.view b e lo len)))], [], some s, some (vD (.int .i64 (len : Int))), [], []⟩ st) ((i, ⟨gs ++ [(x, .e (.one (.view b e lo len)))], [], some s, some (vD (.int .i64 (len : Int))), [], []⟩) :: log)) : Bq P X ops dr Q (r + 1) i st log := Sn hat hx ht next
end run
theorem Na {α : Type} {st : St} (f : α → List T) (xs : List α) (s b e : Nat) (hs0 : st.env s = some (.e (.one (.own b)))) (hb : st.bx b = some (.vec e (xs.map f))) : F0 P X st (St.put st (some s) (some (.e (.one (.view b e 0 xs.length))))) := by
 have := O9 (P := P) (X := X) s b e (xs.map f) hs0 hb
 rwa [List.length_map] at this
theorem PI {α : Type} {st : St} (f : α → List T) (xs : List α) (s b n e len : Nat) (hs0 : st.env s = some (.e (.one (.view b e 0 len)))) (hb : st.bx b = some (.vec e (xs.map f))) (hn : st.bx n = none) (hlb : BW b = false) (hln : BW n = false) (hle : len ≤ xs.length) :
  F0 P X st (St.put ⟨st.env, Bt st.bx [(n, .vec e ((xs.take len).map f)), (b, .gone)]⟩ (some s) (some (.e (.one (.own n))))) := by
 have := Qe (P := P) (X := X) s b n e len (xs.map f) hs0 hb hn hlb hln (by simpa using hle)
 rwa [← List.map_take] at this
theorem LZ (a b : ByteArray) : (a == b) = (a.data == b.data) := by
 cases a; cases b; rfl
theorem Jt (a b : ByteArray) (h : (a == b) = true) : (b == a) = true := by
 rw [LZ] at h ⊢
 rw [beq_iff_eq] at h ⊢; exact h.symm
theorem Lb {c : Code} {Q : Exit → St → Prop} {st : St} (h : W P X c (fun e st => ∃ st', F0 P X st st' ∧ Q e st') st) : W P X c Q st := by
 intro a w hs
 refine wp_mono (h a w hs) ?_
 rintro e a' w' ⟨st', ⟨st2, h1, h2⟩, h3⟩
 exact ⟨st2, h2, h1 a' w' h3⟩
def OU (f : Nat → Nat) (env : Nat → Option D) : List (Nat × D) → Prop
 | [] => True
 | (s, d) :: ps => env s = some (d.ren f) ∧ OU f env ps
def O5 (f : Nat → Nat) (bx : Nat → Option By) : List (Nat × By) → Prop
 | [] => True
 | (b, k) :: ps => bx (f b) = some (k.ren f) ∧ O5 f bx ps
def E9 : List (Nat × By) → List Nat
 | [] => []
 | (b, _) :: ps => b :: E9 ps
def LI (f : Nat → Nat) : List Nat → Bool
 | [] => true
 | b :: bs => (if BW b then f b == b else !BW (f b)) && LI f bs
def Tg (b : Nat) : List Nat → Bool
 | [] => false
 | c :: cs => c == b || Tg b cs
def NW (ns : List Nat) : List (Nat × D) → Bool
 | [] => true
 | (_, d) :: ps => (d.names.all fun b => Tg b ns) && NW ns ps
def NR (ns : List Nat) : List (Nat × By) → Bool
 | [] => true
 | (_, d) :: ps => (d.names.all fun b => Tg b ns) && NR ns ps
theorem Nv {f : Nat → Nat} {env : Nat → Option D} : ∀ {el : List (Nat × D)}, OU f env el → Rh f env el
 | [], _ => trivial
 | (_, _) :: _, h => ⟨h.1, Nv h.2⟩
theorem Nw {f : Nat → Nat} {bx : Nat → Option By} : ∀ {bl : List (Nat × By)}, O5 f bx bl → Rt f bx bl
 | [], _ => trivial
 | (_, _) :: _, h => ⟨h.1, Nw h.2⟩
theorem MC : ∀ bl : List (Nat × By), E9 bl = bl.map (·.1)
 | [] => rfl
 | (b, k) :: ps => by simp [E9, MC ps]
theorem Mu {f : Nat → Nat} : ∀ bl : List (Nat × By), LI f (E9 bl) = bl.all fun p => if BW p.1 then f p.1 == p.1 else !BW (f p.1)
 | [] => rfl
 | (b, k) :: ps => by simp only [E9, LI, List.all_cons, Mu ps]
theorem Od {b : Nat} : ∀ bl : List (Nat × By), Tg b (E9 bl) = bl.any fun q => q.1 == b
 | [] => rfl
 | (c, k) :: ps => by simp only [E9, Tg, List.any_cons, Od ps]
theorem N3 (bl : List (Nat × By)) : ∀ el : List (Nat × D), NW (E9 bl) el = el.all fun p => p.2.names.all fun b => bl.any fun q => q.1 == b
 | [] => rfl
 | (s, d) :: ps => by simp only [NW, List.all_cons, N3 bl ps, Od]
theorem Ns (bl : List (Nat × By)) : ∀ el : List (Nat × By), NR (E9 bl) el = el.all fun p => p.2.names.all fun b => bl.any fun q => q.1 == b
 | [] => rfl
 | (s, d) :: ps => by simp only [NR, List.all_cons, Ns bl ps, Od]
theorem P1 {st : St} (f : Nat → Nat) (el : List (Nat × D)) (bl : List (Nat × By)) (he : OU f st.env el) (hb : O5 f st.bx bl) (hi : (HX ((E9 bl).map f) && LI f (E9 bl)) = true) (hs : (NW (E9 bl) el && NR (E9 bl) bl) = true) : F0 P X st (mk el bl) := by
 refine Re f el bl (Nv he) (Nw hb) ?_ ?_
 ·rw [Mu, MC] at hi; exact hi
 ·rw [N3, Ns] at hs; exact hs
theorem Kp {dr : Bool} {Q : St → Prop} {r i : Nat} {st : St} {log : List (Nat × CU)} {gs : List (Operand × D)} {x y : Operand} {t s : Nat} {b : ByteArray} {k : IntKind} {n v : Int} (hat : At st.env ops i X.n (.index t x y) s gs)
  (hx : opd st.env x = some (vD (.string b))) (hy : opd st.env y = some (vD (.int k n))) (ht : Mb P t = true) (hv : O7 b n = some v)
  (next : Bq P X ops dr Q r (i + 1) (CU.upd ⟨gs ++ [(x, vD (.string b)), (y, vD (.int k n))], [], some s, some (vD (.int .u8 v)), [], []⟩ st) ((i, ⟨gs ++ [(x, vD (.string b)), (y, vD (.int k n))], [], some s, some (vD (.int .u8 v)), [], []⟩) :: log)) : Bq P X ops dr Q (r + 1) i st log := by
 obtain ⟨c, h0, hc, e⟩ := Pg (f := some) (r := v) (by rw [hv]; rfl)
 cases e
 exact Qm hat hx hy ht h0 hc next
theorem Ko {t kt el : TypeId} (h1 : P.underlying t = some (.map kt el)) (h2 : P.underlying kt = some .string) : PS P t Value.string where
 ty := ⟨kt, el, .string, h1, h2, fun _ _ => rfl, fun e n v w => by
  unfold Instr.checkKey
  refine An (AO h2 w) ?_
  rfl⟩
 same := fun a b h => by
  show (b == a) = true
  exact Jt a b h
end Go.Lift

/- The rules once more, with few words: what 'rfl' shows is one equation of tuples. No condition. -/
namespace Go.Lift
open Go.RowKit
variable {P : Program} {X : IC} {ops : Array Oper}
def hd (env : Nat → Option D) (ops : Array Oper) (i n : Nat) : Option (Op × Nat × List (Operand × D)) := match UZ ops i n with
 | some (op, s) => some (op, s, [])
 | none => match UW ops i n with
  | some (op, s, t, want) => (match env t, want with
   | some (.e (.one (.pure (.val (.bool true))))), true => some (op, s, [(.tmp t, bD true)])
   | some (.e (.one (.pure (.val (.bool false))))), false => some (op, s, [(.tmp t, bD false)])
   | _, _ => none)
  | none => none
theorem CW {env : Nat → Option D} {n i s : Nat} {op : Op} {gs : List (Operand × D)} (h : hd env ops i n = some (op, s, gs)) : At env ops i n op s gs := by
 unfold hd at h
 split at h
 ·rename_i e; cases h; exact .p e
 ·split at h
  ·rename_i e
   split at h
   ·rename_i e2; cases h; exact .g e e2
   ·rename_i e2; cases h; exact .g e e2
   ·cases h
  ·cases h
theorem t2 {α β : Type} {a c : α} {b d : β} (h : (a, b) = (c, d)) : a = c ∧ b = d := Prod.mk.inj h
abbrev Nx (P : Program) (X : IC) (ops : Array Oper) (dr : Bool) (Q : St → Prop) (r i : Nat) (st : St) (log : List (Nat × CU)) (l : CU) : Prop := Bq P X ops dr Q r (i + 1) (CU.upd l st) ((i, l) :: log)
theorem sj {α : Type} {a b : α} (h : some a = some b) : a = b := Option.some.inj h
def Qs (env : Nat → Option D) : List Operand → Option (List D)
 | [] => some []
 | x :: xs => match opd env x, Qs env xs with
  | some d, some ds => some (d :: ds)
  | _, _ => none
theorem M4 {env : Nat → Option D} : ∀ {xs : List Operand} {ds : List D}, Qs env xs = some ds → xs.length = ds.length ∧ Fk env (H4 xs ds)
 | [], ds, h => by cases h; exact ⟨rfl, trivial⟩
 | x :: xs, ds, h => by
  simp only [Qs] at h
  split at h
  ·rename_i e1 e2
   cases h
   have := M4 e2
   exact ⟨by simp [this.1], e1, this.2⟩
  ·cases h
def T9 (bx : Nat → Option By) : List Nat → Option (List (Nat × By))
 | [] => some []
 | b :: bs => match bx b, T9 bx bs with
  | some k, some ks => some ((b, k) :: ks)
  | _, _ => none
theorem Qz {bx : Nat → Option By} : ∀ {l : List Nat} {bs : List (Nat × By)}, T9 bx l = some bs → GX bx bs
 | [], bs, h => by cases h; trivial
 | b :: l, bs, h => by
  simp only [T9] at h
  split at h
  ·rename_i e1 e2
   cases h
   exact ⟨e1, Qz e2⟩
  ·cases h
def SR (env : Nat → Option D) : List (Nat × Operand) → Option (List (Nat × Operand × E))
 | [] => some []
 | p :: ps => match opd env p.2, SR env ps with
  | some (.e y), some qs => some ((p.1, p.2, y) :: qs)
  | _, _ => none
theorem OJ {env : Nat → Option D} : ∀ {l : List (Nat × Operand)} {ps : List (Nat × Operand × E)}, SR env l = some ps → l = (ps.map fun p => (p.1, p.2.1)) ∧ Fk env (Hj ps)
 | [], ps, h => by cases h; exact ⟨rfl, trivial⟩
 | p :: l, ps, h => by
  simp only [SR] at h
  split at h
  ·rename_i e1 e2
   cases h
   have := OJ e2
   exact ⟨by rw [List.map_cons, ← this.1], e1, this.2⟩
  ·cases h
theorem P4 {env : Nat → Option D} {parts : Array (Nat × Operand)} {ps : List (Nat × Operand × E)} (h : SR env parts.toList = some ps) : parts = (ps.map fun p => (p.1, p.2.1)).toArray ∧ Fk env (Hj ps) := by
 have := OJ h
 exact ⟨by rw [← this.1], this.2⟩
def Ra (k : Nat) : List (Nat × Operand × E) → Bool
 | [] => true
 | p :: ps => Nat.beq p.1 k && Ra (k + 1) ps
theorem OP : ∀ {k : Nat} {ps : List (Nat × Operand × E)}, Ra k ps = true → ps.map (·.1) = List.range' k ps.length
 | _, [], _ => rfl
 | k, p :: ps, h => by
  simp only [Ra, Bool.and_eq_true] at h
  rw [List.map_cons, List.length_cons, List.range'_succ, OP h.2, Nat.eq_of_beq_eq_true h.1]
def UP : Option By → Bool
 | none => true
 | some _ => false
theorem M6 {bx : Nat → Option By} : ∀ {ns : List Nat}, (ns.all fun n => UP (bx n)) = true → La bx ns
 | [], _ => trivial
 | n :: ns, h => by
  simp only [List.all_cons, Bool.and_eq_true] at h
  refine ⟨?_, M6 h.2⟩
  have := h.1
  cases hb : bx n with
  | none => rfl
  | some k => rw [hb] at this; cases this
theorem Mw {ns : List Nat} (h : (HX ns && (ns.all fun n => !BW n)) = true) : Ll ns := by
 rw [Bool.and_eq_true] at h
 exact ⟨HD h.1, fun c hc => by simpa using List.all_eq_true.1 h.2 c hc⟩
def T6 (env : Nat → Option D) : List (Nat × D) → List (Option D)
 | [] => []
 | (s, _) :: ps => env s :: T6 env ps
def T8 (f : Nat → Nat) : List (Nat × D) → List (Option D)
 | [] => []
 | (_, d) :: ps => some (d.ren f) :: T8 f ps
def Ua (f : Nat → Nat) (bx : Nat → Option By) : List (Nat × By) → List (Option By)
 | [] => []
 | (b, _) :: ps => bx (f b) :: Ua f bx ps
def T7 (f : Nat → Nat) : List (Nat × By) → List (Option By)
 | [] => []
 | (_, k) :: ps => some (k.ren f) :: T7 f ps
theorem QA {f : Nat → Nat} {env : Nat → Option D} : ∀ {el : List (Nat × D)}, T6 env el = T8 f el → OU f env el
 | [], _ => trivial
 | (s, d) :: el, h => by
  simp only [T6, T8] at h
  obtain ⟨h1, h2⟩ := List.cons.inj h
  exact ⟨h1, QA h2⟩
theorem P2 {f : Nat → Nat} {bx : Nat → Option By} : ∀ {el : List (Nat × By)}, Ua f bx el = T7 f el → O5 f bx el
 | [], _ => trivial
 | (s, d) :: el, h => by
  simp only [Ua, T7] at h
  obtain ⟨h1, h2⟩ := List.cons.inj h
  exact ⟨h1, P2 h2⟩
theorem sm {st : St} (l : List (Nat × Nat)) (el : List (Nat × D)) (bl : List (Nat × By)) (h : (T6 st.env el, Ua (rn l) st.bx bl) = (T8 (rn l) el, T7 (rn l) bl)) (hi : ((HX ((E9 bl).map (rn l)) && LI (rn l) (E9 bl)) && (NW (E9 bl) el && NR (E9 bl) bl)) = true) : F0 P X st (mk el bl) :=
 P1 (rn l) el bl (QA (t2 h).1) (P2 (t2 h).2) (Bool.and_eq_true_iff.1 hi).1 (Bool.and_eq_true_iff.1 hi).2
section run
variable {dr : Bool} {Q : St → Prop} {r i : Nat} {st : St} {log : List (Nat × CU)} {gs : List (Operand × D)}
theorem qm {x : Operand} {d : D} {s : Nat} (h : (hd st.env ops i X.n, opd st.env x) = (some (.move x, s, gs), some d)) (next : Nx P X ops dr Q r i st log ⟨gs ++ [(x, d)], [], some s, some d, [], []⟩) : Bq P X ops dr Q (r + 1) i st log :=
 R4 (CW (t2 h).1) (t2 h).2 next
theorem qa {x : Operand} {d : D} {s : Nat} (h : (hd st.env ops i X.n, opd st.env x) = (some (.assign x, s, gs), some d)) (next : Nx P X ops dr Q r i st log ⟨gs ++ [(x, d)], [], some s, some d, [], []⟩) : Bq P X ops dr Q (r + 1) i st log :=
 PM (CW (t2 h).1) (t2 h).2 next
theorem qn {j t s : Nat} {want : Bool} (h : (SQ ops i X.n, st.env t) = (some (j, s, t, want), some (bD (!want)))) (next : Nx P X ops dr Q r i st log ⟨[(.tmp t, bD (!want))], [], some s, some uD, [], []⟩) : Bq P X ops dr Q (r + 1) i st log :=
 R5 (t2 h).1 (t2 h).2 next
theorem qu {j t s : Nat} {want : Bool} (h : (SQ ops i X.n, st.env t) = (some (j, s, t, want), some uD)) (next : Nx P X ops dr Q r i st log ⟨[(.tmp t, uD)], [], some s, some uD, [], []⟩) : Bq P X ops dr Q (r + 1) i st log :=
 R9 (t2 h).1 (t2 h).2 next
theorem qp {c x y : Operand} {b : Bool} {d : D} {z : Operand} {s : Nat} (h : (hd st.env ops i X.n, opd st.env c, (if b then x else y), opd st.env z) = (some (.pick c x y, s, gs), some (bD b), z, some d)) (next : Nx P X ops dr Q r i st log ⟨gs ++ [(c, bD b), (z, d)], [], some s, some d, [], []⟩) : Bq P X ops dr Q (r + 1) i st log :=
 SD (CW (t2 h).1) (t2 (t2 h).2).1 (t2 (t2 (t2 h).2).2).1 (t2 (t2 (t2 h).2).2).2 next
theorem qf {x : Operand} {b k f off s : Nat} {t : TypeId} (hf : C2 P t f off = true) (h : (hd st.env ops i X.n, opd st.env x) = (some (.fieldAddr t x f, s, gs), some (.e (.one (.ptr b k))))) (next : Nx P X ops dr Q r i st log ⟨gs ++ [(x, .e (.one (.ptr b k)))], [], some s, some (.e (.one (.ptr b (k + off)))), [], []⟩) : Bq P X ops dr Q (r + 1) i st log :=
 NT (CW (t2 h).1) (t2 h).2 hf next
theorem qg {x : Operand} {ts us : List T} {f off s : Nat} {t : TypeId} (hf : C2 P t f off = true) (h : (hd st.env ops i X.n, opd st.env x, Nat.ble (off) (ts.length), ts.drop off) = (some (.fieldAddr t x f, s, gs), some (.e (.one (.rop ts))), true, us)) (next : Nx P X ops dr Q r i st log ⟨gs ++ [(x, .e (.one (.rop ts)))], [], some s, some (.e (.one (.rop us))), [], []⟩) : Bq P X ops dr Q (r + 1) i st log :=
 M8 (CW (t2 h).1) (t2 (t2 h).2).1 hf (Nat.le_of_ble_eq_true (t2 (t2 (t2 h).2).2).1) (t2 (t2 (t2 h).2).2).2 next
theorem ql {x : Operand} {b k s : Nat} {cells : List C} {c : C} {t : TypeId} (ht : ET P t false = true) (h : (hd st.env ops i X.n, opd st.env x, st.bx b, cells[k]?) = (some (.load t x, s, gs), some (.e (.one (.ptr b k))), some (.box cells), some c)) (next : Nx P X ops dr Q r i st log ⟨gs ++ [(x, .e (.one (.ptr b k)))], [(b, .box cells)], some s, some (.e (.one c)), [], []⟩) : Bq P X ops dr Q (r + 1) i st log :=
 QM (CW (t2 h).1) (t2 (t2 h).2).1 ht (t2 (t2 (t2 h).2).2).1 (t2 (t2 (t2 h).2).2).2 next
theorem qL {x : Operand} {b k n s : Nat} {cells cs : List C} {t : TypeId} (ht : ET P t true = true) (hz : GW P t n = true) (h : (hd st.env ops i X.n, opd st.env x, st.bx b, (cells.drop k).take n, cs.length) = (some (.load t x, s, gs), some (.e (.one (.ptr b k))), some (.box cells), cs, n)) (next : Nx P X ops dr Q r i st log ⟨gs ++ [(x, .e (.one (.ptr b k)))], [(b, .box cells)], some s, some (.e (.agg cs)), [], []⟩) : Bq P X ops dr Q (r + 1) i st log :=
 QG (CW (t2 h).1) (t2 (t2 h).2).1 ht hz (t2 (t2 (t2 h).2).2).1 (t2 (t2 (t2 (t2 h).2).2).2).1 (t2 (t2 (t2 (t2 h).2).2).2).2 next
theorem qk {x : Operand} {s : Nat} {ts : List T} {u : T} {t : TypeId} (ht : ET P t false = true) (h : (hd st.env ops i X.n, opd st.env x, ts[0]?) = (some (.load t x, s, gs), some (.e (.one (.rop ts))), some u)) (next : Nx P X ops dr Q r i st log ⟨gs ++ [(x, .e (.one (.rop ts)))], [], some s, some (one u), [], []⟩) : Bq P X ops dr Q (r + 1) i st log :=
 PB (CW (t2 h).1) (t2 (t2 h).2).1 ht (t2 (t2 h).2).2 next
theorem qK {x : Operand} {s n : Nat} {ts us : List T} {t : TypeId} (ht : ET P t true = true) (hz : GW P t n = true) (h : (hd st.env ops i X.n, opd st.env x, ts.take n, us.length) = (some (.load t x, s, gs), some (.e (.one (.rop ts))), us, n)) (next : Nx P X ops dr Q r i st log ⟨gs ++ [(x, .e (.one (.rop ts)))], [], some s, some (.e (.agg (us.map C.pure))), [], []⟩) : Bq P X ops dr Q (r + 1) i st log :=
 PJ (CW (t2 h).1) (t2 (t2 h).2).1 ht hz (t2 (t2 (t2 h).2).2).1 (t2 (t2 (t2 h).2).2).2 next
theorem qx {x : Operand} {xs : List E} {y : E} {k s : Nat} (h : (hd st.env ops i X.n, opd st.env x, xs[k]?) = (some (.extract x k, s, gs), some (.tup xs), some y)) (next : Nx P X ops dr Q r i st log ⟨gs ++ [(x, .tup xs)], [], some s, some (.e y), [], []⟩) : Bq P X ops dr Q (r + 1) i st log :=
 Pm (CW (t2 h).1) (t2 (t2 h).2).1 (t2 (t2 h).2).2 next
theorem qb {x : Operand} {y : E} {s : Nat} {el : TypeId} (h : (hd st.env ops i X.n, opd st.env x, st.bx s) = (some (.box el x, s, gs), some (.e y), none)) (next : Nx P X ops dr Q r i st log ⟨gs ++ [(x, .e y)], [], some s, some (.e (.one (.ptr s 0))), [(s, .box y.cells)], [s]⟩) : Bq P X ops dr Q (r + 1) i st log :=
 Tz (CW (t2 h).1) (t2 (t2 h).2).1 (t2 (t2 h).2).2 next
theorem qz {z : Value} {zs : List Value} {s : Nat} {el : TypeId} (hz : D9 P el = some z) (h : (hd st.env ops i X.n, z.cells.toList, zs.all Gp, st.bx s) = (some (.alloc el, s, gs), zs, true, none)) (next : Nx P X ops dr Q r i st log ⟨gs ++ [], [], some s, some (.e (.one (.ptr s 0))), [(s, .box (zs.map fun v => C.pure (T.of v)))], [s]⟩) : Bq P X ops dr Q (r + 1) i st log :=
 QO (CW (t2 h).1) hz (t2 (t2 h).2).1 (t2 (t2 (t2 h).2).2).1 (t2 (t2 (t2 h).2).2).2 next
theorem qs {x y : Operand} {b k n : Nat} {cells cells' : List C} {v : E} {t : TypeId} (hz : GW P t n = true) (h : (Nt ops i, opd st.env x, opd st.env y, st.bx b, v.cells.length, Nat.ble (k + n) (cells.length), H0 cells k v.cells) = (some (.store t x y), some (.e (.one (.ptr b k))), some (.e v), some (.box cells), n, true, cells')) (next : Nx P X ops dr Q r i st log ⟨[(x, .e (.one (.ptr b k))), (y, .e v)], [(b, .box cells)], none, none, [(b, .box cells')], []⟩) : Bq P X ops dr Q (r + 1) i st log :=
 QT (t2 h).1 (t2 (t2 h).2).1 (t2 (t2 (t2 h).2).2).1 (t2 (t2 (t2 (t2 h).2).2).2).1 hz (t2 (t2 (t2 (t2 (t2 h).2).2).2).2).1 (Nat.le_of_ble_eq_true (t2 (t2 (t2 (t2 (t2 (t2 h).2).2).2).2).2).1) (t2 (t2 (t2 (t2 (t2 (t2 h).2).2).2).2).2).2 next
theorem qi {x y : Operand} {s e : Nat} {rows : List (List T)} {row : List T} {t el : TypeId} {k : IntKind} {n : Int} (ht : sliceB P t el = true) (hz : GW P el e = true) (h0 : 0 ≤ n) (hrow : rows[n.toNat]? = some row) (h : (hd st.env ops i X.n, opd st.env x, opd st.env y, row.length) = (some (.indexAddr t x y, s, gs), some (one (.sl rows)), some (vD (.int k n)), e)) (next : Nx P X ops dr Q r i st log ⟨gs ++ [(x, one (.sl rows)), (y, vD (.int k n))], [], some s, some (.e (.one (.rop row))), [], []⟩) : Bq P X ops dr Q (r + 1) i st log :=
 Q2 (CW (t2 h).1) (t2 (t2 h).2).1 (t2 (t2 (t2 h).2).2).1 ht hz h0 hrow (t2 (t2 (t2 h).2).2).2 next
theorem qI {x y : Operand} {s e b : Nat} {rows : List (List T)} {row : List T} {t el : TypeId} {k : IntKind} {n : Int} (ht : sliceB P t el = true) (hz : GW P el e = true) (h0 : 0 ≤ n) (hrow : rows[n.toNat]? = some row) (h : (hd st.env ops i X.n, opd st.env x, opd st.env y, st.bx b) = (some (.indexAddr t x y, s, gs), some (.e (.one (.own b))), some (vD (.int k n)), some (.vec e rows))) (next : Nx P X ops dr Q r i st log ⟨gs ++ [(x, .e (.one (.own b))), (y, vD (.int k n))], [(b, .vec e rows)], some s, some (.e (.one (.eptr b e n.toNat 0))), [], []⟩) : Bq P X ops dr Q (r + 1) i st log :=
 PC (CW (t2 h).1) (t2 (t2 h).2).1 (t2 (t2 (t2 h).2).2).1 (t2 (t2 (t2 h).2).2).2 ht hz h0 hrow next
theorem qj {x : Operand} {b e ix k s : Nat} {rows : List (List T)} {row : List T} {u : T} {t : TypeId} (ht : ET P t false = true) (hrow : rows[ix]? = some row) (h : (hd st.env ops i X.n, opd st.env x, st.bx b, row[k]?) = (some (.load t x, s, gs), some (.e (.one (.eptr b e ix k))), some (.vec e rows), some u)) (next : Nx P X ops dr Q r i st log ⟨gs ++ [(x, .e (.one (.eptr b e ix k)))], [(b, .vec e rows)], some s, some (one u), [], []⟩) : Bq P X ops dr Q (r + 1) i st log :=
 Qw (CW (t2 h).1) (t2 (t2 h).2).1 ht (t2 (t2 (t2 h).2).2).1 hrow (t2 (t2 (t2 h).2).2).2 next
theorem qJ {x : Operand} {b e ix s : Nat} {rows : List (List T)} {row : List T} {t : TypeId} (ht : ET P t true = true) (hz : GW P t e = true) (hrow : rows[ix]? = some row) (h : (hd st.env ops i X.n, opd st.env x, st.bx b) = (some (.load t x, s, gs), some (.e (.one (.eptr b e ix 0))), some (.vec e rows))) (next : Nx P X ops dr Q r i st log ⟨gs ++ [(x, .e (.one (.eptr b e ix 0)))], [(b, .vec e rows)], some s, some (.e (.agg (row.map C.pure))), [], []⟩) : Bq P X ops dr Q (r + 1) i st log :=
 J8 (CW (t2 h).1) (t2 (t2 h).2).1 ht hz (t2 (t2 h).2).2 hrow next
theorem LY {x : Operand} {s b k : Nat} (h : (hd st.env ops i X.n, opd st.env x) = (some (.nilCheck x, s, gs), some (.e (.one (.ptr b k))))) (next : Nx P X ops dr Q r i st log ⟨gs ++ [(x, .e (.one (.ptr b k)))], [], some s, some (.e (.one (.ptr b k))), [], []⟩) : Bq P X ops dr Q (r + 1) i st log :=
 Oh (CW (t2 h).1) (t2 h).2 next
theorem AU {k : IntKind} {xt yt : TypeId} {x y : Operand} {a b : Int} {s : Nat} (h : (hd st.env ops i X.n, opd st.env x, opd st.env y) = (some (.binOp .add xt x y yt, s, gs), some (vD (.int k a)), some (vD (.int k b)))) (next : Nx P X ops dr Q r i st log ⟨gs ++ [(x, vD (.int k a)), (y, vD (.int k b))], [], some s, some (vD (.int k (k.wrap (a + b)))), [], []⟩) : Bq P X ops dr Q (r + 1) i st log :=
 GZ (CW (t2 h).1) (t2 (t2 h).2).1 (t2 (t2 h).2).2 (QK _ _ _ _ _ _) rfl next
theorem Cs {k : IntKind} {xt yt : TypeId} {x y : Operand} {a b : Int} {s : Nat} (h : (hd st.env ops i X.n, opd st.env x, opd st.env y) = (some (.binOp .sub xt x y yt, s, gs), some (vD (.int k a)), some (vD (.int k b)))) (next : Nx P X ops dr Q r i st log ⟨gs ++ [(x, vD (.int k a)), (y, vD (.int k b))], [], some s, some (vD (.int k (k.wrap (a - b)))), [], []⟩) : Bq P X ops dr Q (r + 1) i st log :=
 GZ (CW (t2 h).1) (t2 (t2 h).2).1 (t2 (t2 h).2).2 (RD _ _ _ _ _ _) rfl next
theorem HH {k : IntKind} {xt yt : TypeId} {x y : Operand} {a b : Int} {s : Nat} (h : (hd st.env ops i X.n, opd st.env x, opd st.env y) = (some (.binOp .mul xt x y yt, s, gs), some (vD (.int k a)), some (vD (.int k b)))) (next : Nx P X ops dr Q r i st log ⟨gs ++ [(x, vD (.int k a)), (y, vD (.int k b))], [], some s, some (vD (.int k (k.wrap (a * b)))), [], []⟩) : Bq P X ops dr Q (r + 1) i st log :=
 GZ (CW (t2 h).1) (t2 (t2 h).2).1 (t2 (t2 h).2).2 (QZ _ _ _ _ _ _) rfl next
theorem BA {k : IntKind} {xt yt : TypeId} {x y : Operand} {a b : Int} {s : Nat} (h : (hd st.env ops i X.n, opd st.env x, opd st.env y) = (some (.binOp .eql xt x y yt, s, gs), some (vD (.int k a)), some (vD (.int k b)))) (next : Nx P X ops dr Q r i st log ⟨gs ++ [(x, vD (.int k a)), (y, vD (.int k b))], [], some s, some (vD (.bool (a == b))), [], []⟩) : Bq P X ops dr Q (r + 1) i st log :=
 GZ (CW (t2 h).1) (t2 (t2 h).2).1 (t2 (t2 h).2).2 (Q9 _ _ _ _ _ _) rfl next
theorem BX {k : IntKind} {xt yt : TypeId} {x y : Operand} {a b : Int} {s : Nat} (h : (hd st.env ops i X.n, opd st.env x, opd st.env y) = (some (.binOp .neq xt x y yt, s, gs), some (vD (.int k a)), some (vD (.int k b)))) (next : Nx P X ops dr Q r i st log ⟨gs ++ [(x, vD (.int k a)), (y, vD (.int k b))], [], some s, some (vD (.bool (a != b))), [], []⟩) : Bq P X ops dr Q (r + 1) i st log :=
 GZ (CW (t2 h).1) (t2 (t2 h).2).1 (t2 (t2 h).2).2 (QX _ _ _ _ _ _) rfl next
theorem AY {k : IntKind} {xt yt : TypeId} {x y : Operand} {a b : Int} {s : Nat} (h : (hd st.env ops i X.n, opd st.env x, opd st.env y) = (some (.binOp .lss xt x y yt, s, gs), some (vD (.int k a)), some (vD (.int k b)))) (next : Nx P X ops dr Q r i st log ⟨gs ++ [(x, vD (.int k a)), (y, vD (.int k b))], [], some s, some (vD (.bool (decide (a < b)))), [], []⟩) : Bq P X ops dr Q (r + 1) i st log :=
 GZ (CW (t2 h).1) (t2 (t2 h).2).1 (t2 (t2 h).2).2 (QR _ _ _ _ _ _) rfl next
theorem JH {k : IntKind} {xt yt : TypeId} {x y : Operand} {a b : Int} {s : Nat} (h : (hd st.env ops i X.n, opd st.env x, opd st.env y) = (some (.binOp .leq xt x y yt, s, gs), some (vD (.int k a)), some (vD (.int k b)))) (next : Nx P X ops dr Q r i st log ⟨gs ++ [(x, vD (.int k a)), (y, vD (.int k b))], [], some s, some (vD (.bool (decide (a ≤ b)))), [], []⟩) : Bq P X ops dr Q (r + 1) i st log :=
 GZ (CW (t2 h).1) (t2 (t2 h).2).1 (t2 (t2 h).2).2 (RB _ _ _ _ _ _) rfl next
theorem Ew {k : IntKind} {xt yt : TypeId} {x y : Operand} {a b : Int} {s : Nat} (h : (hd st.env ops i X.n, opd st.env x, opd st.env y) = (some (.binOp .gtr xt x y yt, s, gs), some (vD (.int k a)), some (vD (.int k b)))) (next : Nx P X ops dr Q r i st log ⟨gs ++ [(x, vD (.int k a)), (y, vD (.int k b))], [], some s, some (vD (.bool (decide (b < a)))), [], []⟩) : Bq P X ops dr Q (r + 1) i st log :=
 GZ (CW (t2 h).1) (t2 (t2 h).2).1 (t2 (t2 h).2).2 (QP _ _ _ _ _ _) rfl next
theorem C6 {k : IntKind} {xt yt : TypeId} {x y : Operand} {a b : Int} {s : Nat} (h : (hd st.env ops i X.n, opd st.env x, opd st.env y) = (some (.binOp .geq xt x y yt, s, gs), some (vD (.int k a)), some (vD (.int k b)))) (next : Nx P X ops dr Q r i st log ⟨gs ++ [(x, vD (.int k a)), (y, vD (.int k b))], [], some s, some (vD (.bool (decide (b ≤ a)))), [], []⟩) : Bq P X ops dr Q (r + 1) i st log :=
 GZ (CW (t2 h).1) (t2 (t2 h).2).1 (t2 (t2 h).2).2 (Rm _ _ _ _ _ _) rfl next
theorem J1 {k : IntKind} {xt yt : TypeId} {x y : Operand} {a b : Int} {s : Nat} (h : (hd st.env ops i X.n, opd st.env x, opd st.env y) = (some (.binOp .and xt x y yt, s, gs), some (vD (.int k a)), some (vD (.int k b)))) (next : Nx P X ops dr Q r i st log ⟨gs ++ [(x, vD (.int k a)), (y, vD (.int k b))], [], some s, some (vD (.int k (Fm k a b))), [], []⟩) : Bq P X ops dr Q (r + 1) i st log :=
 GZ (CW (t2 h).1) (t2 (t2 h).2).1 (t2 (t2 h).2).2 (QS _ _ _ _ _ _) rfl next
theorem PO {k : IntKind} {xt yt : TypeId} {x y : Operand} {a b : Int} {s : Nat} (h : (hd st.env ops i X.n, opd st.env x, opd st.env y) = (some (.binOp .or xt x y yt, s, gs), some (vD (.int k a)), some (vD (.int k b)))) (next : Nx P X ops dr Q r i st log ⟨gs ++ [(x, vD (.int k a)), (y, vD (.int k b))], [], some s, some (vD (.int k (LU k a b))), [], []⟩) : Bq P X ops dr Q (r + 1) i st log :=
 GZ (CW (t2 h).1) (t2 (t2 h).2).1 (t2 (t2 h).2).2 (Sl _ _ _ _ _ _) rfl next
theorem Hv {k : IntKind} {xt yt : TypeId} {x y : Operand} {a b : Int} {s : Nat} (h : (hd st.env ops i X.n, opd st.env x, opd st.env y) = (some (.binOp .andNot xt x y yt, s, gs), some (vD (.int k a)), some (vD (.int k b)))) (next : Nx P X ops dr Q r i st log ⟨gs ++ [(x, vD (.int k a)), (y, vD (.int k b))], [], some s, some (vD (.int k (CK k a b))), [], []⟩) : Bq P X ops dr Q (r + 1) i st log :=
 GZ (CW (t2 h).1) (t2 (t2 h).2).1 (t2 (t2 h).2).2 (Ou _ _ _ _ _ _) rfl next
theorem Qt {k : IntKind} {xt yt : TypeId} {x y : Operand} {a b : Int} {s : Nat} (h : (hd st.env ops i X.n, opd st.env x, opd st.env y) = (some (.binOp .xor xt x y yt, s, gs), some (vD (.int k a)), some (vD (.int k b)))) (next : Nx P X ops dr Q r i st log ⟨gs ++ [(x, vD (.int k a)), (y, vD (.int k b))], [], some s, some (vD (.int k (FZ k a b))), [], []⟩) : Bq P X ops dr Q (r + 1) i st log :=
 GZ (CW (t2 h).1) (t2 (t2 h).2).1 (t2 (t2 h).2).2 (Rk _ _ _ _ _ _) rfl next
theorem G8 {k k' : IntKind} {xt yt : TypeId} {x y : Operand} {a b : Int} {s : Nat} (h : (hd st.env ops i X.n, opd st.env x, opd st.env y) = (some (.binOp .shl xt x y yt, s, gs), some (vD (.int k a)), some (vD (.int k' b)))) (hc : 0 ≤ b) (next : Nx P X ops dr Q r i st log ⟨gs ++ [(x, vD (.int k a)), (y, vD (.int k' b))], [], some s, some (vD (.int k (Co k a b))), [], []⟩) : Bq P X ops dr Q (r + 1) i st log :=
 GZ (CW (t2 h).1) (t2 (t2 h).2).1 (t2 (t2 h).2).2 (Rb _ _ _ _ _ _ _ hc) rfl next
theorem Gz {k k' : IntKind} {xt yt : TypeId} {x y : Operand} {a b : Int} {s : Nat} (h : (hd st.env ops i X.n, opd st.env x, opd st.env y) = (some (.binOp .shr xt x y yt, s, gs), some (vD (.int k a)), some (vD (.int k' b)))) (hc : 0 ≤ b) (next : Nx P X ops dr Q r i st log ⟨gs ++ [(x, vD (.int k a)), (y, vD (.int k' b))], [], some s, some (vD (.int k (D0 k a b))), [], []⟩) : Bq P X ops dr Q (r + 1) i st log :=
 GZ (CW (t2 h).1) (t2 (t2 h).2).1 (t2 (t2 h).2).2 (QQ _ _ _ _ _ _ _ hc) rfl next
theorem J7 {k : IntKind} {xt yt : TypeId} {x y : Operand} {a b : Int} {s : Nat} (h : (hd st.env ops i X.n, opd st.env x, opd st.env y) = (some (.binOp .rem xt x y yt, s, gs), some (vD (.int k a)), some (vD (.int k b)))) (hc : b ≠ 0) (next : Nx P X ops dr Q r i st log ⟨gs ++ [(x, vD (.int k a)), (y, vD (.int k b))], [], some s, some (vD (.int k (a.tmod b))), [], []⟩) : Bq P X ops dr Q (r + 1) i st log :=
 GZ (CW (t2 h).1) (t2 (t2 h).2).1 (t2 (t2 h).2).2 (Rl _ _ _ _ _ _ hc) rfl next
theorem Ld {k : IntKind} {xt yt : TypeId} {x y : Operand} {a b : Int} {s : Nat} (h : (hd st.env ops i X.n, opd st.env x, opd st.env y) = (some (.binOp .quo xt x y yt, s, gs), some (vD (.int k a)), some (vD (.int k b)))) (hc : b ≠ 0) (next : Nx P X ops dr Q r i st log ⟨gs ++ [(x, vD (.int k a)), (y, vD (.int k b))], [], some s, some (vD (.int k (k.wrap (a.tdiv b)))), [], []⟩) : Bq P X ops dr Q (r + 1) i st log :=
 GZ (CW (t2 h).1) (t2 (t2 h).2).1 (t2 (t2 h).2).2 (QW _ _ _ _ _ _ hc) rfl next
theorem Cu {xt : TypeId} {x : Operand} {b : Bool} {s : Nat} (h : (hd st.env ops i X.n, opd st.env x) = (some (.unOp .not xt x, s, gs), some (bD b))) (next : Nx P X ops dr Q r i st log ⟨gs ++ [(x, bD b)], [], some s, some (vD (.bool (!b))), [], []⟩) : Bq P X ops dr Q (r + 1) i st log :=
 Ut (CW (t2 h).1) (t2 h).2 (Sa _) rfl next
theorem F8 {xt yt : TypeId} {k k' : IntKind} {x : Operand} {a : Int} {s : Nat} (hs : (P.underlying xt).isSome = true) (ht : Lw P yt k = true) (h : (hd st.env ops i X.n, opd st.env x) = (some (.convert xt yt x, s, gs), some (vD (.int k' a)))) (next : Nx P X ops dr Q r i st log ⟨gs ++ [(x, vD (.int k' a))], [], some s, some (vD (.int k (k.wrap a))), [], []⟩) : Bq P X ops dr Q (r + 1) i st log :=
 Sd (CW (t2 h).1) (t2 h).2 (Qf hs ht _ _) rfl next
theorem AR {α : Type} {f : α → List T} {xs : List α} {x : Operand} {s : Nat} {t el : TypeId} (ht : sliceB P t el = true) (h : (hd st.env ops i X.n, opd st.env x) = (some (.call ⟨.builtin .len, #[x], #[t]⟩, s, gs), some (one (.sl (xs.map f))))) (next : Nx P X ops dr Q r i st log ⟨gs ++ [(x, one (.sl (xs.map f)))], [], some s, some (vD (.int .i64 (xs.length : Int))), [], []⟩) : Bq P X ops dr Q (r + 1) i st log :=
 RW (CW (t2 h).1) (t2 h).2 (.sl _) trivial (List.length_map _) ht next
theorem DZ {α : Type} {f : α → List T} {xs : List α} {x : Operand} {s b e : Nat} {t el : TypeId} (ht : sliceB P t el = true) (h : (hd st.env ops i X.n, opd st.env x, st.bx b) = (some (.call ⟨.builtin .len, #[x], #[t]⟩, s, gs), some (.e (.one (.own b))), some (.vec e (xs.map f)))) (next : Nx P X ops dr Q r i st log ⟨gs ++ [(x, .e (.one (.own b)))], [(b, .vec e (xs.map f))], some s, some (vD (.int .i64 (xs.length : Int))), [], []⟩) : Bq P X ops dr Q (r + 1) i st log :=
 RW (CW (t2 h).1) (t2 (t2 h).2).1 (.own _ _ _) ⟨(t2 (t2 h).2).2, trivial⟩ (List.length_map _) ht next
theorem BE {t : TypeId} {s : Nat} {z : Value} {zs : List Value} {pl : List (Nat × Nat)} {cells : List C} {parts : Array (Nat × Operand)} {ps : List (Nat × Operand × E)} (hz : D9 P t = some z) (hpl : HO P t = some pl) (h : (hd st.env ops i X.n, SR st.env parts.toList, z.cells.toList, zs.all Gp, JD (pl[·]?) (zs.map fun v => C.pure (T.of v)) (ps.map fun p => (p.1, p.2.2))) = (some (.build t parts, s, gs), some ps, zs, true, some cells)) (next : Nx P X ops dr Q r i st log ⟨gs ++ Hj ps, [], some s, some (.e (.agg cells)), [], []⟩) : Bq P X ops dr Q (r + 1) i st log :=
 have q := P4 (t2 (t2 h).2).1
 QU ps (CW (t2 h).1) (by rw [← q.1]) q.2 hz (t2 (t2 (t2 h).2).2).1 (t2 (t2 (t2 (t2 h).2).2).2).1 hpl (t2 (t2 (t2 (t2 h).2).2).2).2 next
theorem D4 {t el : TypeId} {s n e : Nat} {z : Value} {rows : List (List T)} {parts : Array (Nat × Operand)} {ps : List (Nat × Operand × E)} (ht : sliceB P t el = true) (he : GW P el e = true) (hz : D9 P el = some z) (h : (hd st.env ops i X.n, SR st.env parts.toList, st.bx s, Ra 0 ps, ps.length, Nat.ble (n * e) 16777216, (ps.map fun p => (p.1, p.2.2)).mapM (fun p => p.2.ts), rows.all (fun row => row.length == e)) = (some (.buildSlice t n parts, s, gs), some ps, none, true, n, true, some rows, true)) (next : Nx P X ops dr Q r i st log ⟨gs ++ Hj ps, [], some s, some (.e (.one (.own s))), [(s, .vec e rows)], [s]⟩) : Bq P X ops dr Q (r + 1) i st log :=
 have q := P4 (t2 (t2 h).2).1
 have g := (t2 (t2 (t2 h).2).2).2
 M0 ps (CW (t2 h).1) (by rw [← q.1]) q.2 (t2 (t2 (t2 h).2).2).1 ht he hz (OP (t2 g).1) (t2 (t2 g).2).1 (Nat.le_of_ble_eq_true (t2 (t2 (t2 g).2).2).1) (t2 (t2 (t2 (t2 g).2).2).2).1 (t2 (t2 (t2 (t2 g).2).2).2).2 next
theorem AD {f s : Nat} {xs : List Operand} {ds0 ds : List D} {rv : List (Nat × List (List T))} {res : D} {ts : Array TypeId} (ns : List Nat) (hc : Az P f ds rv res) (hf : AG P f = true) (h : (hd st.env ops i X.n, Qs st.env xs, ds0.map D.nrm, ds.all P5, ns.length, HX ns && (ns.all fun n => !BW n), ns.all (fun n => UP (st.bx n)), res.names.all (fun b => decide (b < rv.length))) = (some (.call ⟨.value (.func f), xs.toArray, ts⟩, s, gs), some ds0, ds, true, rv.length, true, true, true)) (next : Nx P X ops dr Q r i st log ⟨gs ++ H4 xs ds0, [], some s, some (res.ren (nm ns)), IG ns rv, ns⟩) : Bq P X ops dr Q (r + 1) i st log :=
 have q := M4 (t2 (t2 h).2).1
 have g := (t2 (t2 (t2 h).2).2).2
 SI ns hc (CW (t2 h).1) hf q.1 q.2 (t2 (t2 (t2 h).2).2).1 (t2 g).1 (t2 (t2 g).2).1 (Mw (t2 (t2 (t2 g).2).2).1) (M6 (t2 (t2 (t2 (t2 g).2).2).2).1) (t2 (t2 (t2 (t2 g).2).2).2).2 next
theorem GN {f s : Nat} {xs : List Operand} {ds0 ds : List D} {rv : List (Nat × List (List T))} {res : D} {ts : Array TypeId} {bs : List (Nat × By)} (ns lb : List Nat) (hc : Az P f ds rv res) (hf : AG P f = true) (hfv : ND rv) (h : (hd st.env ops i X.n, Qs st.env xs, T9 st.bx lb, ds0.map (fun d => (d.lend bs).nrm), ds.all P5, ns.length, HX ns && (ns.all fun n => !BW n), ns.all (fun n => UP (st.bx n)), res.flat, res.names.all (fun b => decide (b < rv.length))) = (some (.call ⟨.value (.func f), xs.toArray, ts⟩, s, gs), some ds0, some bs, ds, true, rv.length, true, true, true, true)) (next : Nx P X ops dr Q r i st log ⟨gs ++ H4 xs ds0, bs, some s, some (res.ren (nm ns)), IG ns rv, ns⟩) : Bq P X ops dr Q (r + 1) i st log :=
 have q := M4 (t2 (t2 h).2).1
 have g := (t2 (t2 (t2 h).2).2).2
 have g2 := (t2 (t2 (t2 g).2).2).2
 Rx ns bs hc (CW (t2 h).1) hf q.1 q.2 (Qz (t2 (t2 (t2 h).2).2).1) (t2 g).1 (t2 (t2 g).2).1 (t2 (t2 (t2 g).2).2).1 (Mw (t2 g2).1) (M6 (t2 (t2 g2).2).1) (t2 (t2 (t2 g2).2).2).1 hfv (t2 (t2 (t2 g2).2).2).2 next
theorem Dx {α : Type} {f : α → List T} {xs : List α} {ys : List α} {x y : Operand} {t t2' el el2 s e bytes b b2 : Nat} {z : Value} (ht : sliceB P t el = true) (ht2 : sliceB P t2' el2 = true) (he : GW P el e = true) (hby : Fb P el bytes = true) (hz : D9 P el = some z) (hlim : xs.length + ys.length ≤ Er) (h : (hd st.env ops i X.n, opd st.env x, st.bx b, opd st.env y, st.bx b2, st.bx s, z.cells.size, Nat.ble bytes 4096, [b].all (fun b => !BW b)) = (some (.call ⟨.builtin .append, #[x, y], #[t, t2']⟩, s, gs), some (.e (.one (.own b))), some (.vec e (xs.map f)), some (.e (.one (.own b2))), some (.vec e (ys.map f)), none, e, true, true)) (next : Nx P X ops dr Q r i st log ⟨gs ++ [(x, .e (.one (.own b))), (y, .e (.one (.own b2)))], [(b, .vec e (xs.map f))] ++ [(b2, .vec e (ys.map f))], some s, some (.e (.one (.own s))), (s, .vec e ((xs ++ ys).map f)) :: IS [b], [s]⟩) : Bq P X ops dr Q (r + 1) i st log :=
 NC (CW (t2 h).1) (t2 (t2 h).2).1 (.own _ _ _) ⟨(t2 (t2 (t2 h).2).2).1, trivial⟩ (t2 (t2 (t2 (t2 h).2).2).2).1 (.own _ _ _) ⟨(t2 (t2 (t2 (t2 (t2 h).2).2).2).2).1, trivial⟩ (t2 (t2 (t2 (t2 (t2 (t2 h).2).2).2).2).2).1 ht ht2 he hby (Nat.le_of_ble_eq_true (t2 (t2 (t2 (t2 (t2 (t2 (t2 (t2 h).2).2).2).2).2).2).2).1) hz (t2 (t2 (t2 (t2 (t2 (t2 (t2 h).2).2).2).2).2).2).1 (by simpa using hlim) (by simp) (t2 (t2 (t2 (t2 (t2 (t2 (t2 (t2 h).2).2).2).2).2).2).2).2 next
theorem Kk {α : Type} {f : α → List T} {xs : List α} {ys : List α} {x y : Operand} {t t2' el el2 s e bytes b : Nat} {z : Value} (ht : sliceB P t el = true) (ht2 : sliceB P t2' el2 = true) (he : GW P el e = true) (hby : Fb P el bytes = true) (hz : D9 P el = some z) (hf : ∀ x, (f x).length = e) (hlim : xs.length + ys.length ≤ Er) (h : (hd st.env ops i X.n, opd st.env x, st.bx b, opd st.env y, st.bx s, z.cells.size, Nat.ble bytes 4096, [b].all (fun b => !BW b)) = (some (.call ⟨.builtin .append, #[x, y], #[t, t2']⟩, s, gs), some (.e (.one (.own b))), some (.vec e (xs.map f)), some (one (.sl (ys.map f))), none, e, true, true)) (next : Nx P X ops dr Q r i st log ⟨gs ++ [(x, .e (.one (.own b))), (y, one (.sl (ys.map f)))], [(b, .vec e (xs.map f))] ++ [], some s, some (.e (.one (.own s))), (s, .vec e ((xs ++ ys).map f)) :: IS [b], [s]⟩) : Bq P X ops dr Q (r + 1) i st log :=
 NC (CW (t2 h).1) (t2 (t2 h).2).1 (.own _ _ _) ⟨(t2 (t2 (t2 h).2).2).1, trivial⟩ (t2 (t2 (t2 (t2 h).2).2).2).1 (.sl _ _ (NH hf _)) trivial (t2 (t2 (t2 (t2 (t2 h).2).2).2).2).1 ht ht2 he hby (Nat.le_of_ble_eq_true (t2 (t2 (t2 (t2 (t2 (t2 (t2 h).2).2).2).2).2).2).1) hz (t2 (t2 (t2 (t2 (t2 (t2 h).2).2).2).2).2).1 (by simpa using hlim) (by simp) (t2 (t2 (t2 (t2 (t2 (t2 (t2 h).2).2).2).2).2).2).2 next
end run
end Go.Lift

/- A function that is named where a closure is wanted, in calls that lend. No condition. -/
namespace Go.Lift
open Go.RowKit
variable {P : Program}
def S8 (P : Program) : List D → List D → Prop
 | [], [] => True
 | a :: ar, b :: bs => (∀ (w : World) (G : Gh) (v : Value), F9 P w G v a → F9 P w G v b) ∧ S8 P ar bs
 | _, _ => False
theorem S8.get : ∀ {ar bs : List D}, S8 P ar bs → ar.length = bs.length ∧ ∀ (j : Nat) (b : D), bs[j]? = some b → ∃ a, ar[j]? = some a ∧ ∀ (w : World) (G : Gh) (v : Value), F9 P w G v a → F9 P w G v b
 | [], [], _ => ⟨rfl, fun j b h => by simp at h⟩
 | a :: ar, b :: bs, h => by
  obtain ⟨h1, h2⟩ := S8.get h.2
  refine ⟨by simp [h1], fun j c hj => ?_⟩
  cases j with
  | zero => simp at hj; subst hj; exact ⟨a, rfl, h.1⟩
  | succ j => obtain ⟨a', g1, g2⟩ := h2 j c (by simpa using hj); exact ⟨a', by simpa using g1, g2⟩
theorem Bv.weak {f : FuncId} {ds ds' : List D} {lent : List (By × By)} {rv : List By} {res : D} (h : Bv P f ds lent rv res) (hp : S8 P ds' ds) : Bv P f ds' lent rv res := by
 intro w G vs h1 h2 h3 h4 hlen hargs
 obtain ⟨g1, g2⟩ := hp.get
 refine h w G vs h1 h2 h3 h4 (by rw [hlen, g1]) fun j d hj => ?_
 obtain ⟨a, e1, e2⟩ := g2 j d hj
 exact e2 w G _ (hargs j a e1)
theorem K5 {f : FuncId} {g : List (Bool × List T) → Option T} (hf : AG P f = true) (hclo : ∀ ar t, g ar = some t → Az P f (ar.map MJ) [] (one t)) {w : World} {G : Gh} {v : Value} (h : F9 P w G v (.e (.one (.fnc f)))) : F9 P w G v (.e (.one (.clo g))) :=
 Rc (S := G.S) hf hclo h
end Go.Lift

/- A place of a part of an own slice, at typed lists. No condition. -/
namespace Go.Lift
open Go.RowKit
variable {P : Program} {X : IC} {ops : Array Oper}
theorem Ih {α : Type} {xs : List α} {lo len i : Nat} {x : α} (h : ((xs.drop lo).take len)[i]? = some x) : i < len ∧ xs[lo + i]? = some x := by
 rw [List.getElem?_take] at h
 split at h
 ·rename_i h1; rw [List.getElem?_drop] at h; exact ⟨h1, h⟩
 ·cases h
section run
variable {dr : Bool} {Q : St → Prop} {r i : Nat} {st : St} {log : List (Nat × CU)} {gs : List (Operand × D)}
theorem Kw {α : Type} (f : α → List T) (xs : List α) {x y : Operand} {s e b lo len q : Nat} {t el : TypeId} {k : IntKind} {n : Int} (hat : At st.env ops i X.n (.indexAddr t x y) s gs)
  (hx : opd st.env x = some (.e (.one (.view b e lo len)))) (hle : lo + len ≤ xs.length) (hy : opd st.env y = some (vD (.int k n))) (hb : st.bx b = some (.vec e (xs.map f))) (ht : sliceB P t el = true) (hz : GW P el e = true) (h0 : 0 ≤ n) (hn1 : n.toNat < len) (hq : lo + n.toNat = q)
  (next : Nx P X ops dr Q r i st log ⟨gs ++ [(x, .e (.one (.view b e lo len))), (y, vD (.int k n))], [(b, .vec e (xs.map f))], some s, some (.e (.one (.eptr b e q 0))), [], []⟩) : Bq P X ops dr Q (r + 1) i st log := by
 subst hq
 exact Qd (row := []) hat hx (by simpa using hle) hy hb ht hz h0 hn1 next
end run
end Go.Lift

/- The types of the shallow programs, and how a value of each lies in cells. Written by a program (gen.py). -/
namespace Go.Lift
def Ai (n : Int) : List T := [.val (.int .i64 n)]
def Bk (n : Int) : List T := [.val (.int .u8 n)]
def UI (n : Int) : List T := [.val (.int .u16 n)]
abbrev Cv (n : Int) : T := .val (.int .i64 n)
abbrev tB (b : Bool) : T := .val (.bool b)
def eB (b : Bool) : List T := [.val (.bool b)]
def EQ {α : Type} (f : α → List T) (xs : List α) : List T := [.sl (xs.map f)]
theorem Qo : QF Ai := ⟨by intro x y h; simpa [Ai] using h⟩
theorem To : QF Bk := ⟨by intro x y h; simpa [Bk] using h⟩
theorem Ub : QF eB := ⟨by intro x y h; simpa [eB] using h⟩
theorem Tk {α : Type} {f : α → List T} (h : QF f) : QF (EQ f) := ⟨by intro x y hx; simp only [EQ, List.cons.injEq, T.sl.injEq, and_true] at hx; exact JM h.inj _ _ hx⟩
structure G1 where
 fKind : Int
 fFrom : Int
 fTo : Int
 fAware : Bool
 fBad : Int
 fLost : Int
def BZ (x : G1) : List T := [.val (.int .u8 x.fKind), .val (.int .u8 x.fFrom), .val (.int .u8 x.fTo), .val (.bool x.fAware), .val (.int .u16 x.fBad), .val (.int .u16 x.fLost)]
structure Ch where
 fVersions : List Int
 fNow : List Int
 fTarget : List Int
 fLinks : List G1
def JN (x : Ch) : List T := [.sl (x.fVersions.map Bk), .sl (x.fNow.map Bk), .sl (x.fTarget.map Bk), .sl (x.fLinks.map BZ)]
structure Ap where
 fKind : Int
 fIndex : Int
 fVersion : Int
def AF (x : Ap) : List T := [.val (.int .i64 x.fKind), .val (.int .i64 x.fIndex), .val (.int .i64 x.fVersion)]
theorem Lk : QF AF := ⟨by
 rintro ⟨a1, a2, a3⟩ ⟨b1, b2, b3⟩ h
 simp only [AF, List.cons.injEq, T.val.injEq, Value.int.injEq, and_true, true_and] at h
 obtain ⟨h1, h2, h3⟩ := h
 subst h1
 subst h2
 subst h3
 rfl⟩
structure AH where
 fKind : Int
 fFrom : Int
 fTo : Int
 fAware : Bool
 fOK : List (List Bool)
 fRewrite : List (List Bool)
def Aq (x : AH) : List T := [.val (.int .i64 x.fKind), .val (.int .i64 x.fFrom), .val (.int .i64 x.fTo), .val (.bool x.fAware), .sl (x.fOK.map (EQ eB)), .sl (x.fRewrite.map (EQ eB))]
structure Ah where
 fVersions : List Int
 fNow : List Int
 fTarget : List Int
 fTables : List AH
structure Ae where
 fBase : List Int
 fNext : List Int
 fHeld : List Int
def Af (x : Ae) : List T := [.sl (x.fBase.map Ai), .sl (x.fNext.map Ai), .sl (x.fHeld.map Bk)]
theorem Bh : QF Af := ⟨by
 rintro ⟨a1, a2, a3⟩ ⟨b1, b2, b3⟩ h
 simp only [Af, List.cons.injEq, T.sl.injEq, and_true] at h
 obtain ⟨h1, h2, h3⟩ := h
 have h1 := JM Qo.inj _ _ h1
 subst h1
 have h2 := JM Qo.inj _ _ h2
 subst h2
 have h3 := JM To.inj _ _ h3
 subst h3
 rfl⟩
structure AT where
 fTable : Int
 fWriter : Int
 fReader : Int
def Cc (x : AT) : List T := [.val (.int .i64 x.fTable), .val (.int .i64 x.fWriter), .val (.int .i64 x.fReader)]
end Go.Lift

/- The shallow programs. Written by a program (gen.py) out of the code. -/
namespace Go.Lift
def Dp (_ : Nat) (p0 : List Int) (p1 : Int) : Option Int :=
 AS ((decide (p1 < (p0.length : Int))))
  ((A5 p0 p1).bind fun v2 =>
  some ((IntKind.wrap .i64 v2)))
  (some 0)
def A4 (_ : Nat) (p0 : AH) : Option Bool :=
 Bb (fun (v1 : Bool) =>
  some v1)
 fun j1 =>
 AS ((p0.fKind == 3))
  (j1 true)
  (j1 (p0.fKind == 4))
def B1 (N : Nat) (p1 : Int) (p2 : Int) (p3 : Bool) (v1 : (List (List Bool)) × Int) (j4 : ((List Bool)) → Option ((List (List Bool)))) : Nat → ((List Bool) × Int) → Option ((List (List Bool)))
 | 0, _ => none
 | n4 + 1, v4 =>
  AS ((decide (v4.2 < p1)))
   (Bb (fun (v7 : (List Bool)) =>
    B1 N p1 p2 p3 v1 j4 n4 (v7, (IntKind.wrap .i64 (v4.2 + 1))))
   fun j7 =>
   AS p3
    (AS ((v1.2 == v4.2))
     ((D7 (v4.1.length + (([true] : List Bool)).length ≤ Er)).bind fun _ =>
     j7 (v4.1 ++ (([true] : List Bool))))
     ((D7 (0 ≤ (IntKind.wrap .i64 ((IntKind.wrap .i64 (3 * v1.2)) + v4.2)))).bind fun _ =>
     (D7 (v4.1.length + (([((Int.tmod ((D0 .u16 p2 ((IntKind.wrap .i64 ((IntKind.wrap .i64 (3 * v1.2)) + v4.2))))) 2) == 0)] : List Bool)).length ≤ Er)).bind fun _ =>
     j7 (v4.1 ++ (([((Int.tmod ((D0 .u16 p2 ((IntKind.wrap .i64 ((IntKind.wrap .i64 (3 * v1.2)) + v4.2))))) 2) == 0)] : List Bool)))))
    ((D7 (0 ≤ (IntKind.wrap .i64 ((IntKind.wrap .i64 (3 * v1.2)) + v4.2)))).bind fun _ =>
    (D7 (v4.1.length + (([((Int.tmod ((D0 .u16 p2 ((IntKind.wrap .i64 ((IntKind.wrap .i64 (3 * v1.2)) + v4.2))))) 2) == 0)] : List Bool)).length ≤ Er)).bind fun _ =>
    j7 (v4.1 ++ (([((Int.tmod ((D0 .u16 p2 ((IntKind.wrap .i64 ((IntKind.wrap .i64 (3 * v1.2)) + v4.2))))) 2) == 0)] : List Bool)))))
   (j4 v4.1)
def B4 (N : Nat) (p0 : Int) (p1 : Int) (p2 : Int) (p3 : Bool) (j1 : ((List (List Bool))) → Option ((List (List Bool)))) : Nat → ((List (List Bool)) × Int) → Option ((List (List Bool)))
 | 0, _ => none
 | n1 + 1, v1 =>
  AS ((decide (v1.2 < p0)))
   (B1 N p1 p2 p3 v1 (fun (v5 : (List Bool)) =>
    (D7 (v1.1.length + (([v5] : List (List Bool))).length ≤ Er)).bind fun _ =>
    B4 N p0 p1 p2 p3 j1 n1 (v1.1 ++ (([v5] : List (List Bool))), (IntKind.wrap .i64 (v1.2 + 1)))) N (([] : List Bool), 0))
   (j1 v1.1)
def Dq (N : Nat) (p0 : Int) (p1 : Int) (p2 : Int) (p3 : Bool) : Option ((List (List Bool))) :=
 B4 N p0 p1 p2 p3 (fun (v2 : (List (List Bool))) =>
  some v2) N (([] : List (List Bool)), 0)
def Ck (N : Nat) (p0 : Ch) (j4 : ((List Int) × (List Int) × (List Int)) → Option (Ah × Bool)) : Nat → ((List Int) × (List Int) × (List Int) × Int) → Option (Ah × Bool)
 | 0, _ => none
 | n4 + 1, v4 =>
  AS ((decide (v4.2.2.2 < (p0.fVersions.length : Int))))
   ((A5 p0.fVersions v4.2.2.2).bind fun v7 =>
   (D7 (v4.1.length + (([(IntKind.wrap .i64 (1 + (IntKind.wrap .i64 ((Int.tmod v7 3)))))] : List Int)).length ≤ Er)).bind fun _ =>
   (Dp N p0.fNow v4.2.2.2).bind fun v9 =>
   (D7 ((IntKind.wrap .i64 (1 + (IntKind.wrap .i64 ((Int.tmod v7 3))))) ≠ 0)).bind fun _ =>
   (D7 (v4.2.1.length + (([(Int.tmod v9 ((IntKind.wrap .i64 (1 + (IntKind.wrap .i64 ((Int.tmod v7 3)))))))] : List Int)).length ≤ Er)).bind fun _ =>
   (Dp N p0.fTarget v4.2.2.2).bind fun v12 =>
   (D7 ((IntKind.wrap .i64 (1 + (IntKind.wrap .i64 ((Int.tmod v7 3))))) ≠ 0)).bind fun _ =>
   (D7 (v4.2.2.1.length + (([(Int.tmod v12 ((IntKind.wrap .i64 (1 + (IntKind.wrap .i64 ((Int.tmod v7 3)))))))] : List Int)).length ≤ Er)).bind fun _ =>
   Ck N p0 j4 n4 (v4.1 ++ (([(IntKind.wrap .i64 (1 + (IntKind.wrap .i64 ((Int.tmod v7 3)))))] : List Int)), v4.2.1 ++ (([(Int.tmod v9 ((IntKind.wrap .i64 (1 + (IntKind.wrap .i64 ((Int.tmod v7 3)))))))] : List Int)), v4.2.2.1 ++ (([(Int.tmod v12 ((IntKind.wrap .i64 (1 + (IntKind.wrap .i64 ((Int.tmod v7 3)))))))] : List Int)), (IntKind.wrap .i64 (v4.2.2.2 + 1))))
   (j4 (v4.1, v4.2.1, v4.2.2.1))
def Bm (N : Nat) (p0 : Ch) (v5 : (List Int) × (List Int) × (List Int)) (j15 : ((List AH)) → Option (Ah × Bool)) : Nat → ((List AH) × Int) → Option (Ah × Bool)
 | 0, _ => none
 | n15 + 1, v15 =>
  Bb (fun (v17 : Bool) =>
   AS v17
    ((A5 p0.fLinks v15.2).bind fun v20 =>
    (D7 ((v5.1.length : Int) ≠ 0)).bind fun _ =>
    (D7 ((v5.1.length : Int) ≠ 0)).bind fun _ =>
    Bb (fun (v23 : Bool) =>
     (A5 v5.1 ((Int.tmod ((IntKind.wrap .i64 v20.fFrom)) ((v5.1.length : Int))))).bind fun v26 =>
     (A5 v5.1 ((Int.tmod ((IntKind.wrap .i64 v20.fTo)) ((v5.1.length : Int))))).bind fun v27 =>
     (Dq N v26 v27 v20.fBad false).bind fun v28 =>
     Bb (fun (v29 : (List (List Bool))) =>
      (D7 (v15.1.length + (([(AH.mk ((IntKind.wrap .i64 (1 + (IntKind.wrap .i64 ((Int.tmod v20.fKind 4)))))) ((Int.tmod ((IntKind.wrap .i64 v20.fFrom)) ((v5.1.length : Int)))) ((Int.tmod ((IntKind.wrap .i64 v20.fTo)) ((v5.1.length : Int)))) v23 v28 v29)] : List AH)).length ≤ Er)).bind fun _ =>
      Bm N p0 v5 j15 n15 (v15.1 ++ (([(AH.mk ((IntKind.wrap .i64 (1 + (IntKind.wrap .i64 ((Int.tmod v20.fKind 4)))))) ((Int.tmod ((IntKind.wrap .i64 v20.fFrom)) ((v5.1.length : Int)))) ((Int.tmod ((IntKind.wrap .i64 v20.fTo)) ((v5.1.length : Int)))) v23 v28 v29)] : List AH)), (IntKind.wrap .i64 (v15.2 + 1))))
     fun j29 =>
     AS (((IntKind.wrap .i64 (1 + (IntKind.wrap .i64 ((Int.tmod v20.fKind 4))))) == 4))
      ((A5 v5.1 ((Int.tmod ((IntKind.wrap .i64 v20.fFrom)) ((v5.1.length : Int))))).bind fun v31 =>
      (A5 v5.1 ((Int.tmod ((IntKind.wrap .i64 v20.fFrom)) ((v5.1.length : Int))))).bind fun v32 =>
      (Dq N v31 v32 v20.fLost true).bind fun v33 =>
      j29 v33)
      (j29 ([] : List (List Bool))))
    fun j23 =>
    AS v20.fAware
     ((A4 N ((AH.mk ((IntKind.wrap .i64 (1 + (IntKind.wrap .i64 ((Int.tmod v20.fKind 4)))))) ((Int.tmod ((IntKind.wrap .i64 v20.fFrom)) ((v5.1.length : Int)))) ((Int.tmod ((IntKind.wrap .i64 v20.fTo)) ((v5.1.length : Int)))) false (([] : List (List Bool))) (([] : List (List Bool)))))).bind fun v25 =>
     j23 (!v25))
     (j23 false))
    (j15 v15.1))
  fun j17 =>
  AS ((decide (v15.2 < (p0.fLinks.length : Int))))
   (j17 (decide (0 < (v5.1.length : Int))))
   (j17 false)
def Ei (N : Nat) (p0 : Ch) : Option (Ah × Bool) :=
 Bb (fun (v1 : Bool) =>
  AS v1
   (some ((Ah.mk (([] : List Int)) (([] : List Int)) (([] : List Int)) (([] : List AH))), false))
   (Ck N p0 (fun (v5 : (List Int) × (List Int) × (List Int)) =>
    Bm N p0 v5 (fun (v16 : (List AH)) =>
     some ((Ah.mk v5.1 v5.2.1 v5.2.2 v16), true)) N (([] : List AH), 0)) N (([] : List Int), ([] : List Int), ([] : List Int), 0)))
 fun j1 =>
 AS ((decide (3 < (p0.fVersions.length : Int))))
  (j1 true)
  (j1 (decide (4 < (p0.fLinks.length : Int))))
def Cn (_ : Nat) (p0 : Bool) : Option Ah :=
 some ((Ah.mk (([2] : List Int)) (([0] : List Int)) (([1] : List Int)) (([(AH.mk 1 0 0 false (([([true, true] : List Bool), ([p0, true] : List Bool)] : List (List Bool))) (([] : List (List Bool))))] : List AH))))
def Dv (_ : Nat) (p0 : Int) (p1 : Int) : Option Bool :=
 Bb (fun (v1 : Bool) =>
  some v1)
 fun j1 =>
 AS ((decide (0 ≤ p0)))
  (j1 (decide (p0 < p1)))
  (j1 false)
def FC (_ : Nat) (p0 : Int) (p1 : Bool) : Option Bool :=
 Bb (fun (v1 : Bool) =>
  some v1)
 fun j1 =>
 AS ((p0 == 1))
  (j1 true)
  (AS ((p0 == 2))
   (j1 true)
   (AS ((p0 == 3))
    (j1 (!p1))
    (AS ((p0 == 4))
     (j1 (!p1))
     (j1 false))))
def Do (_ : Nat) (p0 : List Bool) (p1 : Int) : Option Bool :=
 some (((p0.length : Int) != p1))
def Bd (N : Nat) (p0 : List (List Bool)) (p1 : (List Bool) → Option Bool) (j1 : Unit → Option Int) : Nat → Int → Option Int
 | 0, _ => none
 | n1 + 1, v1 =>
  AS ((decide (v1 < (p0.length : Int))))
   ((A5 p0 v1).bind fun v4 =>
   (p1 v4).bind fun v5 =>
   AS v5
    (some v1)
    (Bd N p0 p1 j1 n1 (IntKind.wrap .i64 (v1 + 1))))
   (j1 ())
def CV (N : Nat) (p0 : List (List Bool)) (p1 : (List Bool) → Option Bool) : Option Int :=
 Bd N p0 p1 (fun (_ : Unit) =>
  some ((-1))) N 0
def Cz (N : Nat) (p0 : List (List Bool)) (p1 : (List Bool) → Option Bool) : Option Bool :=
 (CV N p0 p1).bind fun v1 =>
 some ((decide (0 ≤ v1)))
def Ef (N : Nat) (p0 : List (List Bool)) (p1 : Int) (p2 : Int) : Option Bool :=
 Bb (fun (v1 : Bool) =>
  some v1)
 fun j1 =>
 AS (((p0.length : Int) == p1))
  ((Cz N p0 ((fun (x : List Bool) => Do N x p2))).bind fun v3 =>
  j1 (!v3))
  (j1 false)
def CG (N : Nat) (p1 : AH) (j19 : Unit → Option Int) : Nat → Int → Option Int
 | 0, _ => none
 | n19 + 1, v19 =>
  AS ((decide (v19 < (p1.fRewrite.length : Int))))
   ((A5 p1.fRewrite v19).bind fun v22 =>
   (A5 v22 v19).bind fun v23 =>
   AS ((!v23))
    (some 1)
    (CG N p1 j19 n19 (IntKind.wrap .i64 (v19 + 1))))
   (j19 ())
def Ff (N : Nat) (p0 : Ah) (p1 : AH) : Option Int :=
 (FC N p1.fKind p1.fAware).bind fun v1 =>
 AS ((!v1))
  (some 1)
  (Bb (fun (v3 : Bool) =>
   AS v3
    (some 4)
    ((A5 p0.fVersions p1.fFrom).bind fun v8 =>
    Bb (fun (v9 : Bool) =>
     AS v9
      (some 6)
      (CG N p1 (fun (_ : Unit) =>
       some 0) N 0))
    fun j9 =>
    (A5 p0.fVersions p1.fTo).bind fun v10 =>
    (Ef N p1.fOK v8 v10).bind fun v11 =>
    AS ((!v11))
     (j9 true)
     (AS ((p1.fKind == 4))
      ((Ef N p1.fRewrite v8 v8).bind fun v14 =>
      AS ((!v14))
       (j9 true)
       (AS ((!((p1.fKind == 4))))
        (j9 (decide (0 < (p1.fRewrite.length : Int))))
        (j9 false)))
      (AS ((!((p1.fKind == 4))))
       (j9 (decide (0 < (p1.fRewrite.length : Int))))
       (j9 false)))))
  fun j3 =>
  (Dv N p1.fFrom ((p0.fVersions.length : Int))).bind fun v4 =>
  AS ((!v4))
   (j3 true)
   ((Dv N p1.fTo ((p0.fVersions.length : Int))).bind fun v6 =>
   j3 (!v6)))
def BI (N : Nat) (p0 : Ah) (j7 : Unit → Option Int) : Nat → Int → Option Int
 | 0, _ => none
 | n7 + 1, v7 =>
  AS ((decide (v7 < (p0.fVersions.length : Int))))
   ((A5 p0.fVersions v7).bind fun v10 =>
   Bb (fun (v11 : Bool) =>
    AS v11
     (some 7)
     (BI N p0 j7 n7 (IntKind.wrap .i64 (v7 + 1))))
   fun j11 =>
   AS ((decide (v10 < 1)))
    (j11 true)
    (AS ((decide (6 < v10)))
     (j11 true)
     ((A5 p0.fNow v7).bind fun v14 =>
     (Dv N v14 v10).bind fun v15 =>
     AS ((!v15))
      (j11 true)
      ((A5 p0.fTarget v7).bind fun v17 =>
      (Dv N v17 v10).bind fun v18 =>
      j11 (!v18)))))
   (j7 ())
def Bw (N : Nat) (p0 : Ah) (j20 : Unit → Option Int) : Nat → Int → Option Int
 | 0, _ => none
 | n20 + 1, v20 =>
  AS ((decide (v20 < (p0.fTables.length : Int))))
   ((A5 p0.fTables v20).bind fun v23 =>
   (Ff N p0 v23).bind fun v24 =>
   AS ((v24 != 0))
    (some v24)
    (Bw N p0 j20 n20 (IntKind.wrap .i64 (v20 + 1))))
   (j20 ())
def C0 (N : Nat) (p0 : Ah) : Option Int :=
 Bb (fun (v1 : Bool) =>
  AS v1
   (some 3)
   (Bb (fun (v4 : Bool) =>
    AS v4
     (some 6)
     (BI N p0 (fun (_ : Unit) =>
      Bw N p0 (fun (_ : Unit) =>
       some 0) N 0) N 0))
   fun j4 =>
   AS (((p0.fNow.length : Int) != (p0.fVersions.length : Int)))
    (j4 true)
    (j4 ((p0.fTarget.length : Int) != (p0.fVersions.length : Int)))))
 fun j1 =>
 AS ((decide (6 < (p0.fVersions.length : Int))))
  (j1 true)
  (j1 (decide (12 < (p0.fTables.length : Int))))
def Bu (_ : Nat) (p0 : List Int) : Option ((List Int)) :=
 (D7 ((([] : List Int)).length + p0.length ≤ Er)).bind fun _ =>
 some ((([] : List Int)) ++ p0)
def FT (_ : Nat) (p0 : Int) (p1 : Int) : Option (Int × Int) :=
 some ((IntKind.wrap .u32 ((D0 .u64 ((IntKind.wrap .u64 ((IntKind.wrap .u64 p0) * (IntKind.wrap .u64 p1)))) 32))), (IntKind.wrap .u32 ((IntKind.wrap .u64 ((IntKind.wrap .u64 p0) * (IntKind.wrap .u64 p1))))))
def FY (_ : Nat) (p0 : Int) (p1 : Int) : Option (Int × Int) :=
 some ((IntKind.wrap .u64 ((IntKind.wrap .u64 ((IntKind.wrap .u64 ((D0 .u64 p0 32) * (D0 .u64 p1 32))) + (D0 .u64 ((IntKind.wrap .u64 ((IntKind.wrap .u64 ((D0 .u64 p0 32) * (Fm .u64 p1 4294967295))) + (D0 .u64 ((IntKind.wrap .u64 ((Fm .u64 p0 4294967295) * (Fm .u64 p1 4294967295)))) 32)))) 32))) + (D0 .u64 ((IntKind.wrap .u64 ((Fm .u64 ((IntKind.wrap .u64 ((IntKind.wrap .u64 ((D0 .u64 p0 32) * (Fm .u64 p1 4294967295))) + (D0 .u64 ((IntKind.wrap .u64 ((Fm .u64 p0 4294967295) * (Fm .u64 p1 4294967295)))) 32)))) 4294967295) + (IntKind.wrap .u64 ((Fm .u64 p0 4294967295) * (D0 .u64 p1 32)))))) 32))), (IntKind.wrap .u64 (p0 * p1)))
def GH (N : Nat) (p0 : Int) (p1 : Int) : Option (Int × Int) :=
 AS false
  ((FT N ((IntKind.wrap .u32 p0)) ((IntKind.wrap .u32 p1))).bind fun v2 =>
  some ((IntKind.wrap .u64 v2.1), (IntKind.wrap .u64 v2.2)))
  ((FY N p0 p1).bind fun v3 =>
  some (v3.1, v3.2))
def Dg (N : Nat) (j9 : ((List Int)) → Option ((List Int))) : Nat → ((List Int) × Int) → Option ((List Int))
 | 0, _ => none
 | n9 + 1, v9 =>
  AS ((decide (v9.2 < (v9.1.length : Int))))
   ((D7 ((0 : Int) ≤ v9.2 ∧ (v9.2).toNat ≤ v9.1.length ∧ v9.1.length ≤ v9.1.length)).bind fun _ =>
   (D7 ((0 : Int) ≤ v9.2 ∧ 0 ≤ (v9.2).toNat ∧ (v9.2).toNat ≤ v9.1.length)).bind fun _ =>
   Dg N j9 n9 (H1 v9.1 ((v9.2).toNat) ((((v9.1.drop 0).take ((v9.2).toNat))).take (Nat.min (((v9.1.drop 0).take ((v9.2).toNat))).length ((v9.1.length - (v9.2).toNat)))), (IntKind.wrap .i64 (v9.2 + (((Nat.min (((v9.1.drop 0).take ((v9.2).toNat))).length ((v9.1.length - (v9.2).toNat))) : Nat) : Int)))))
   (j9 v9.1)
def DE (N : Nat) (p0 : List Int) (p1 : Int) : Option ((List Int)) :=
 Bb (fun (_ : Unit) =>
  (GH N ((IntKind.wrap .u64 ((p0.length : Int)))) ((IntKind.wrap .u64 p1))).bind fun v3 =>
  Bb (fun (_ : Unit) =>
   (D7 ((0 : Int) ≤ (IntKind.wrap .i64 v3.2) ∧ (IntKind.wrap .i64 v3.2) ≤ (IntKind.wrap .i64 v3.2) ∧ (IntKind.wrap .i64 v3.2) ≤ (Er : Int))).bind fun _ =>
   Dg N (fun (v10 : (List Int)) =>
    some v10) N (H1 (List.replicate ((IntKind.wrap .i64 v3.2)).toNat ((0 : Int))) 0 (p0.take (Nat.min p0.length ((List.replicate ((IntKind.wrap .i64 v3.2)).toNat ((0 : Int))).length))), (((Nat.min p0.length ((List.replicate ((IntKind.wrap .i64 v3.2)).toNat ((0 : Int))).length)) : Nat) : Int)))
  fun j4 =>
  Bb (fun (v5 : Bool) =>
   AS v5
    (none)
    (j4 ()))
  fun j5 =>
  AS ((decide (0 < v3.1)))
   (j5 true)
   (j5 (decide (9223372036854775807 < v3.2))))
 fun j1 =>
 AS ((decide (p1 < 0)))
  (none)
  (j1 ())
def Eq (_ : Nat) (p0 : AH) : Option Bool :=
 Bb (fun (v1 : Bool) =>
  some v1)
 fun j1 =>
 AS ((p0.fKind == 3))
  (j1 true)
  (j1 (p0.fKind == 4))
def Dt (N : Nat) (p0 : Ah) (j6 : ((List Int)) → Option (Ae × Int)) : Nat → ((List Int) × Int) → Option (Ae × Int)
 | 0, _ => none
 | n6 + 1, v6 =>
  AS ((decide (v6.2 < (p0.fTables.length : Int))))
   (Bb (fun (v9 : (List Int)) =>
    Dt N p0 j6 n6 (v9, (IntKind.wrap .i64 (v6.2 + 1))))
   fun j9 =>
   (A5 p0.fTables v6.2).bind fun v10 =>
   (Eq N v10).bind fun v11 =>
   AS v11
    ((A5 p0.fNow v10.fFrom).bind fun v13 =>
    (D7 (0 ≤ v13)).bind fun _ =>
    (A5 v6.1 v6.2).bind fun _ =>
    j9 (v6.1.set ((v6.2).toNat) ((Co .u8 1 v13))))
    (j9 v6.1))
   (j6 v6.1)
def Fl (N : Nat) (p0 : Ah) : Option (Ae × Int) :=
 (C0 N p0).bind fun v1 =>
 AS ((v1 != 0))
  (some ((Ae.mk (([] : List Int)) (([] : List Int)) (([] : List Int))), v1))
  ((Bu N p0.fNow).bind fun v3 =>
  (DE N (([(-1)] : List Int)) ((p0.fNow.length : Int))).bind fun v4 =>
  (D7 ((0 : Int) ≤ (p0.fTables.length : Int) ∧ (p0.fTables.length : Int) ≤ (p0.fTables.length : Int) ∧ (p0.fTables.length : Int) ≤ (Er : Int))).bind fun _ =>
  Dt N p0 (fun (v7 : (List Int)) =>
   some ((Ae.mk v3 v4 v7), 0)) N (List.replicate ((p0.fTables.length : Int)).toNat ((0 : Int)), 0))
def D6 (_ : Nat) (p0 : Ae) (p1 : Int) : Option Int :=
 (A5 p0.fBase p1).bind fun v1 =>
 (D7 (0 ≤ v1)).bind fun _ =>
 Bb (fun (v3 : Int) =>
  some v3)
 fun j3 =>
 (A5 p0.fNext p1).bind fun v4 =>
 AS ((decide (0 ≤ v4)))
  ((A5 p0.fNext p1).bind fun v6 =>
  (D7 (0 ≤ v6)).bind fun _ =>
  j3 (LU .u8 ((Co .u8 1 v1)) ((Co .u8 1 v6))))
  (j3 (Co .u8 1 v1))
def Du (N : Nat) (p0 : Ah) (p1 : Ae) (j7 : Unit → Option Int) : Nat → Int → Option Int
 | 0, _ => none
 | n7 + 1, v7 =>
  AS ((decide (v7 < (p0.fVersions.length : Int))))
   ((A5 p0.fVersions v7).bind fun v10 =>
   Bb (fun (v11 : Bool) =>
    AS v11
     (some 7)
     ((A5 p1.fBase v7).bind fun v20 =>
     (A5 p1.fNext v7).bind fun v21 =>
     AS ((v20 == v21))
      (some 1)
      (Du N p0 p1 j7 n7 (IntKind.wrap .i64 (v7 + 1)))))
   fun j11 =>
   (A5 p1.fBase v7).bind fun v12 =>
   AS ((decide (v12 < 0)))
    (j11 true)
    ((A5 p1.fBase v7).bind fun v14 =>
    AS ((decide (v10 ≤ v14)))
     (j11 true)
     ((A5 p1.fNext v7).bind fun v16 =>
     AS ((decide (v16 < (-1))))
      (j11 true)
      ((A5 p1.fNext v7).bind fun v18 =>
      j11 (decide (v10 ≤ v18))))))
   (j7 ())
def Da (N : Nat) (p0 : Ah) (p1 : Ae) (j23 : Unit → Option Int) : Nat → Int → Option Int
 | 0, _ => none
 | n23 + 1, v23 =>
  AS ((decide (v23 < (p0.fTables.length : Int))))
   ((A5 p0.fTables v23).bind fun v26 =>
   Bb (fun (v27 : Int × Int) =>
    Bb (fun (v33 : Bool) =>
     AS v33
      (some 1)
      (Da N p0 p1 j23 n23 (IntKind.wrap .i64 (v23 + 1))))
    fun j33 =>
    (A5 p1.fHeld v23).bind fun v34 =>
    AS (((CK .u8 v27.1 v34) != 0))
     (j33 true)
     ((A5 p1.fHeld v23).bind fun v36 =>
     j33 ((CK .u8 v36 v27.2) != 0)))
   fun j27 =>
   (Eq N v26).bind fun v28 =>
   AS v28
    ((D6 N p1 v26.fFrom).bind fun v30 =>
    (A5 p0.fVersions v26.fFrom).bind fun v31 =>
    (D7 (0 ≤ v31)).bind fun _ =>
    j27 (v30, (IntKind.wrap .u8 ((Co .u8 1 v31) - 1))))
    (j27 (0, 0)))
   (j23 ())
def Ek (N : Nat) (p0 : Ah) (p1 : Ae) : Option Int :=
 (C0 N p0).bind fun v1 =>
 AS ((v1 != 0))
  (some v1)
  (Bb (fun (v3 : Bool) =>
   AS v3
    (some 6)
    (Du N p0 p1 (fun (_ : Unit) =>
     Da N p0 p1 (fun (_ : Unit) =>
      some 0) N 0) N 0))
  fun j3 =>
  AS (((p1.fBase.length : Int) != (p0.fVersions.length : Int)))
   (j3 true)
   (AS (((p1.fNext.length : Int) != (p0.fVersions.length : Int)))
    (j3 true)
    (j3 ((p1.fHeld.length : Int) != (p0.fTables.length : Int)))))
def Bz (_ : Nat) (p0 : List Int) : Option ((List Int)) :=
 (D7 ((([] : List Int)).length + p0.length ≤ Er)).bind fun _ =>
 some ((([] : List Int)) ++ p0)
def Fp (N : Nat) (p1 : Ae) (j3 : ((List Int)) → Option ((List Ae) × Int)) : Nat → ((List Int) × Int) → Option ((List Ae) × Int)
 | 0, _ => none
 | n3 + 1, v3 =>
  AS ((decide (v3.2 < (p1.fNext.length : Int))))
   (Bb (fun (v6 : (List Int)) =>
    Fp N p1 j3 n3 (v6, (IntKind.wrap .i64 (v3.2 + 1))))
   fun j6 =>
   (A5 p1.fNext v3.2).bind fun v7 =>
   AS ((decide (0 ≤ v7)))
    ((D7 (v3.1.length + (([v3.2] : List Int)).length ≤ Er)).bind fun _ =>
    j6 (v3.1 ++ (([v3.2] : List Int))))
    (j6 v3.1))
   (j3 v3.1)
def E7 (N : Nat) (v4 : (List Int)) (v11 : (List Ae) × Int) (j17 : ((List Int)) → Option ((List Ae) × Int)) : Nat → ((List Int) × Int) → Option ((List Ae) × Int)
 | 0, _ => none
 | n17 + 1, v17 =>
  AS ((decide (v17.2 < (v4.length : Int))))
   (Bb (fun (v20 : (List Int)) =>
    E7 N v4 v11 j17 n17 (v20, (IntKind.wrap .i64 (v17.2 + 1))))
   fun j20 =>
   (A5 v4 v17.2).bind fun v21 =>
   (D7 (0 ≤ v17.2)).bind fun _ =>
   AS (((Fm .i64 ((D0 .i64 v11.2 v17.2)) 1) == 1))
    ((A5 v17.1 v21).bind fun _ =>
    j20 (v17.1.set ((v21).toNat) ((-1))))
    (j20 v17.1))
   (j17 v17.1)
def E2 (N : Nat) (p1 : Ae) (v4 : (List Int)) (j11 : ((List Ae)) → Option ((List Ae) × Int)) : Nat → ((List Ae) × Int) → Option ((List Ae) × Int)
 | 0, _ => none
 | n11 + 1, v11 =>
  AS ((decide (v11.2 < (Co .i64 1 ((v4.length : Int))))))
   ((Bu N p1.fBase).bind fun v14 =>
   (Bu N p1.fNext).bind fun v15 =>
   (Bz N p1.fHeld).bind fun v16 =>
   E7 N v4 v11 (fun (v18 : (List Int)) =>
    (D7 (v11.1.length + (([(Ae.mk v14 v18 v16)] : List Ae)).length ≤ Er)).bind fun _ =>
    E2 N p1 v4 j11 n11 (v11.1 ++ (([(Ae.mk v14 v18 v16)] : List Ae)), (IntKind.wrap .i64 (v11.2 + 1)))) N (v15, 0))
   (j11 v11.1)
def GK (N : Nat) (p0 : Ah) (p1 : Ae) : Option ((List Ae) × Int) :=
 (Ek N p0 p1).bind fun v1 =>
 AS ((v1 != 0))
  (some (([] : List Ae), v1))
  (Fp N p1 (fun (v4 : (List Int)) =>
   (D7 (0 ≤ (v4.length : Int))).bind fun _ =>
   E2 N p1 v4 (fun (v12 : (List Ae)) =>
    some (v12, 0)) N (([] : List Ae), 0)) N (([] : List Int), 0))
def Ej (N : Nat) (v1 : (List AT) × Int) (v4 : AH) (v6 : Int) (v11 : (List AT) × Int) (v17 : List Bool) (j18 : ((List AT) × Bool) → Option ((List AT))) : Nat → ((List AT) × Bool × Int) → Option ((List AT))
 | 0, _ => none
 | n18 + 1, v18 =>
  AS ((decide (v18.2.2 < (v17.length : Int))))
   (Bb (fun (v21 : (List AT) × Bool) =>
    Ej N v1 v4 v6 v11 v17 j18 n18 (v21.1, v21.2, (IntKind.wrap .i64 (v18.2.2 + 1))))
   fun j21 =>
   (A5 v17 v18.2.2).bind fun v22 =>
   (D7 (0 ≤ v18.2.2)).bind fun _ =>
   AS (((Fm .u8 ((D0 .u8 v6 v18.2.2)) 1) == 0))
    (j21 (v18.1, v18.2.1))
    (Bb (fun (v25 : Bool) =>
     Bb (fun (v27 : Bool) =>
      AS v27
       ((D7 (v18.1.length + (([(AT.mk v1.2 v11.2 v18.2.2)] : List AT)).length ≤ Er)).bind fun _ =>
       j21 (v18.1 ++ (([(AT.mk v1.2 v11.2 v18.2.2)] : List AT)), v25))
       (j21 (v18.1, v25)))
     fun j27 =>
     AS ((!v22))
      (j27 (!v4.fAware))
      (j27 false))
    fun j25 =>
    AS v18.2.1
     (j25 true)
     (j25 v22)))
   (j18 (v18.1, v18.2.1))
def Em (N : Nat) (v1 : (List AT) × Int) (v4 : AH) (v6 : Int) (v7 : Int) (j11 : ((List AT)) → Option ((List AT))) : Nat → ((List AT) × Int) → Option ((List AT))
 | 0, _ => none
 | n11 + 1, v11 =>
  AS ((decide (v11.2 < (v4.fOK.length : Int))))
   (Bb (fun (v14 : (List AT)) =>
    Em N v1 v4 v6 v7 j11 n11 (v14, (IntKind.wrap .i64 (v11.2 + 1))))
   fun j14 =>
   (D7 (0 ≤ v11.2)).bind fun _ =>
   AS (((Fm .u8 ((D0 .u8 v7 v11.2)) 1) == 0))
    (j14 v11.1)
    ((A5 v4.fOK v11.2).bind fun v17 =>
    Ej N v1 v4 v6 v11 v17 (fun (v19 : (List AT) × Bool) =>
     Bb (fun (v31 : Bool) =>
      AS v31
       ((D7 (v19.1.length + (([(AT.mk v1.2 v11.2 ((-1)))] : List AT)).length ≤ Er)).bind fun _ =>
       j14 (v19.1 ++ (([(AT.mk v1.2 v11.2 ((-1)))] : List AT))))
       (j14 v19.1))
     fun j31 =>
     AS v4.fAware
      (j31 (!v19.2))
      (j31 false)) N (v11.1, false, 0)))
   (j11 v11.1)
def Eu (N : Nat) (p0 : Ah) (p1 : Ae) (j1 : ((List AT)) → Option ((List AT))) : Nat → ((List AT) × Int) → Option ((List AT))
 | 0, _ => none
 | n1 + 1, v1 =>
  AS ((decide (v1.2 < (p0.fTables.length : Int))))
   ((A5 p0.fTables v1.2).bind fun v4 =>
   (D6 N p1 v4.fFrom).bind fun v5 =>
   (D6 N p1 v4.fTo).bind fun v6 =>
   Bb (fun (v7 : Int) =>
    Em N v1 v4 v6 v7 (fun (v12 : (List AT)) =>
     Eu N p0 p1 j1 n1 (v12, (IntKind.wrap .i64 (v1.2 + 1)))) N (v1.1, 0))
   fun j7 =>
   (Eq N v4).bind fun v8 =>
   AS v8
    ((A5 p1.fHeld v1.2).bind fun v10 =>
    j7 v10)
    (j7 v5))
   (j1 v1.1)
def GI (N : Nat) (p0 : Ah) (p1 : Ae) : Option ((List AT)) :=
 Eu N p0 p1 (fun (v2 : (List AT)) =>
  some v2) N (([] : List AT), 0)
def FR (N : Nat) (p0 : Ah) (v1 : (List Ae) × Int) (j3 : Unit → Option (Ae × AT × Int)) : Nat → Int → Option (Ae × AT × Int)
 | 0, _ => none
 | n3 + 1, v3 =>
  AS ((decide (v3 < (v1.1.length : Int))))
   ((A5 v1.1 v3).bind fun v6 =>
   (GI N p0 v6).bind fun v7 =>
   AS ((decide (0 < (v7.length : Int))))
    ((A5 v7 0).bind fun v9 =>
    some (v6, v9, 0))
    (FR N p0 v1 j3 n3 (IntKind.wrap .i64 (v3 + 1))))
   (j3 ())
def Ii (N : Nat) (p0 : Ah) (p1 : Ae) : Option (Ae × AT × Int) :=
 (GK N p0 p1).bind fun v1 =>
 AS ((v1.2 != 0))
  (some ((Ae.mk (([] : List Int)) (([] : List Int)) (([] : List Int))), (AT.mk 0 0 0), v1.2))
  (FR N p0 v1 (fun (_ : Unit) =>
   some ((Ae.mk (([] : List Int)) (([] : List Int)) (([] : List Int))), (AT.mk 0 0 0), 15)) N 0)
def FJ (N : Nat) (p0 : Ah) (p1 : Ae) : Option (Bool × Int) :=
 (Ii N p0 p1).bind fun v1 =>
 AS ((v1.2.2 == 0))
  (some (false, 0))
  (AS ((v1.2.2 == 15))
   (some (true, 0))
   (some (false, v1.2.2)))
def Gj (N : Nat) (p0 : Ah) : Option (Ae × Bool × Int) :=
 (Fl N p0).bind fun v1 =>
 AS ((v1.2 != 0))
  (some ((Ae.mk (([] : List Int)) (([] : List Int)) (([] : List Int))), false, v1.2))
  ((FJ N p0 v1.1).bind fun v3 =>
  some (v1.1, v3.1, v3.2))
def FL (N : Nat) (p0 : Ae) (j1 : ((List Int)) → Option ByteArray) : Nat → ((List Int) × Int) → Option ByteArray
 | 0, _ => none
 | n1 + 1, v1 =>
  AS ((decide (v1.2 < (p0.fBase.length : Int))))
   ((A5 p0.fBase v1.2).bind fun v4 =>
   (A5 p0.fNext v1.2).bind fun v5 =>
   (D7 (v1.1.length + (([(IntKind.wrap .u8 v4), (IntKind.wrap .u8 ((IntKind.wrap .i64 (v5 + 1))))] : List Int)).length ≤ Er)).bind fun _ =>
   FL N p0 j1 n1 (v1.1 ++ (([(IntKind.wrap .u8 v4), (IntKind.wrap .u8 ((IntKind.wrap .i64 (v5 + 1))))] : List Int)), (IntKind.wrap .i64 (v1.2 + 1))))
   (j1 v1.1)
def FQ (N : Nat) (p0 : Ae) (j7 : ((List Int)) → Option ByteArray) : Nat → ((List Int) × Int) → Option ByteArray
 | 0, _ => none
 | n7 + 1, v7 =>
  AS ((decide (v7.2 < (p0.fHeld.length : Int))))
   ((A5 p0.fHeld v7.2).bind fun v10 =>
   (D7 (v7.1.length + (([v10] : List Int)).length ≤ Er)).bind fun _ =>
   FQ N p0 j7 n7 (v7.1 ++ (([v10] : List Int)), (IntKind.wrap .i64 (v7.2 + 1))))
   (j7 v7.1)
def Gs (N : Nat) (p0 : Ae) : Option ByteArray :=
 FL N p0 (fun (v2 : (List Int)) =>
  FQ N p0 (fun (v8 : (List Int)) =>
   some ((HP v8))) N (v2, 0)) N (([] : List Int), 0)
def Gi (N : Nat) (v1 : (List Ap) × Int) (v4 : Int) (j5 : ((List Ap)) → Option ((List Ap))) : Nat → ((List Ap) × Int) → Option ((List Ap))
 | 0, _ => none
 | n5 + 1, v5 =>
  AS ((decide (v5.2 < v4)))
   ((D7 (v5.1.length + (([(Ap.mk 1 v1.2 v5.2)] : List Ap)).length ≤ Er)).bind fun _ =>
   Gi N v1 v4 j5 n5 (v5.1 ++ (([(Ap.mk 1 v1.2 v5.2)] : List Ap)), (IntKind.wrap .i64 (v5.2 + 1))))
   (j5 v5.1)
def Gr (N : Nat) (p0 : Ah) (j1 : ((List Ap)) → Option ((List Ap))) : Nat → ((List Ap) × Int) → Option ((List Ap))
 | 0, _ => none
 | n1 + 1, v1 =>
  AS ((decide (v1.2 < (p0.fVersions.length : Int))))
   ((A5 p0.fVersions v1.2).bind fun v4 =>
   Gi N v1 v4 (fun (v6 : (List Ap)) =>
    Gr N p0 j1 n1 (v6, (IntKind.wrap .i64 (v1.2 + 1)))) N (v1.1, 0))
   (j1 v1.1)
def Gl (N : Nat) (p0 : Ah) (j9 : ((List Ap)) → Option ((List Ap))) : Nat → ((List Ap) × Int) → Option ((List Ap))
 | 0, _ => none
 | n9 + 1, v9 =>
  AS ((decide (v9.2 < (p0.fVersions.length : Int))))
   ((D7 (v9.1.length + (([(Ap.mk 2 v9.2 0)] : List Ap)).length ≤ Er)).bind fun _ =>
   Gl N p0 j9 n9 (v9.1 ++ (([(Ap.mk 2 v9.2 0)] : List Ap)), (IntKind.wrap .i64 (v9.2 + 1))))
   (j9 v9.1)
def FK (N : Nat) (p0 : Ah) (j13 : ((List Ap)) → Option ((List Ap))) : Nat → ((List Ap) × Int) → Option ((List Ap))
 | 0, _ => none
 | n13 + 1, v13 =>
  AS ((decide (v13.2 < (p0.fTables.length : Int))))
   ((D7 (v13.1.length + (([(Ap.mk 3 v13.2 0)] : List Ap)).length ≤ Er)).bind fun _ =>
   FK N p0 j13 n13 (v13.1 ++ (([(Ap.mk 3 v13.2 0)] : List Ap)), (IntKind.wrap .i64 (v13.2 + 1))))
   (j13 v13.1)
def IJ (N : Nat) (p0 : Ah) : Option ((List Ap)) :=
 Gr N p0 (fun (v2 : (List Ap)) =>
  Gl N p0 (fun (v10 : (List Ap)) =>
   FK N p0 (fun (v14 : (List Ap)) =>
    some v14) N (v10, 0)) N (v2, 0)) N (([] : List Ap), 0)
def Ez (N : Nat) (p0 : Ae) : Option Ae :=
 (Bu N p0.fBase).bind fun v1 =>
 (Bu N p0.fNext).bind fun v2 =>
 (Bz N p0.fHeld).bind fun v3 =>
 some ((Ae.mk v1 v2 v3))
def EB (_ : Nat) (p0 : AH) : Option Bool :=
 Bb (fun (v1 : Bool) =>
  some v1)
 fun j1 =>
 AS ((p0.fKind == 3))
  (j1 true)
  (j1 (p0.fKind == 4))
def Dd (N : Nat) (p0 : Ah) (p2 : Ap) (j7 : ((List Int)) → Option (Bool × (List Int) × (List Int))) : Nat → ((List Int) × Int) → Option (Bool × (List Int) × (List Int))
 | 0, _ => none
 | n7 + 1, v7 =>
  AS ((decide (v7.2 < (p0.fTables.length : Int))))
   (Bb (fun (v10 : (List Int)) =>
    Dd N p0 p2 j7 n7 (v10, (IntKind.wrap .i64 (v7.2 + 1))))
   fun j10 =>
   (A5 p0.fTables v7.2).bind fun v11 =>
   Bb (fun (v12 : Bool) =>
    AS v12
     ((A5 v7.1 v7.2).bind fun v16 =>
     (D7 (0 ≤ p2.fVersion)).bind fun _ =>
     (A5 v7.1 v7.2).bind fun _ =>
     j10 (v7.1.set ((v7.2).toNat) ((LU .u8 v16 ((Co .u8 1 p2.fVersion))))))
     (j10 v7.1))
   fun j12 =>
   AS ((v11.fFrom == p2.fIndex))
    ((EB N v11).bind fun v14 =>
    j12 v14)
    (j12 false))
   (j7 v7.1)
def GO (N : Nat) (p0 : Ah) (p1 : Ae) (p2 : Ap) : Option (Bool × (List Int) × (List Int)) :=
 Bb (fun (v1 : Bool) =>
  AS v1
   (some (false, p1.fNext, p1.fHeld))
   ((A5 p1.fNext p2.fIndex).bind fun _ =>
   Dd N p0 p2 (fun (v8 : (List Int)) =>
    some (true, p1.fNext.set ((p2.fIndex).toNat) p2.fVersion, v8)) N (p1.fHeld, 0)))
 fun j1 =>
 (A5 p1.fNext p2.fIndex).bind fun v2 =>
 AS ((decide (0 ≤ v2)))
  (j1 true)
  ((A5 p1.fBase p2.fIndex).bind fun v4 =>
  j1 (v4 == p2.fVersion))
def ES (_ : Nat) (p0 : Ae) (p1 : Int) : Option Int :=
 (A5 p0.fBase p1).bind fun v1 =>
 (D7 (0 ≤ v1)).bind fun _ =>
 Bb (fun (v3 : Int) =>
  some v3)
 fun j3 =>
 (A5 p0.fNext p1).bind fun v4 =>
 AS ((decide (0 ≤ v4)))
  ((A5 p0.fNext p1).bind fun v6 =>
  (D7 (0 ≤ v6)).bind fun _ =>
  j3 (LU .u8 ((Co .u8 1 v1)) ((Co .u8 1 v6))))
  (j3 (Co .u8 1 v1))
def Cy (_ : Nat) (p0 : Int) : Option Int :=
 (O7 ((⟨⟨(List.append (List.append [8, 0, 1, 0, 2, 0, 1, 0, 3, 0, 1, 0, 2, 0, 1, 0, 4, 0, 1, 0, 2, 0, 1, 0, 3, 0, 1, 0, 2, 0, 1, 0, 5, 0, 1, 0, 2, 0, 1, 0, 3, 0, 1, 0, 2, 0, 1, 0, 4, 0, 1, 0, 2, 0, 1, 0, 3, 0, 1, 0, 2, 0, 1, 0] [6, 0, 1, 0, 2, 0, 1, 0, 3, 0, 1, 0, 2, 0, 1, 0, 4, 0, 1, 0, 2, 0, 1, 0, 3, 0, 1, 0, 2, 0, 1, 0, 5, 0, 1, 0, 2, 0, 1, 0, 3, 0, 1, 0, 2, 0, 1, 0, 4, 0, 1, 0, 2, 0, 1, 0, 3, 0, 1, 0, 2, 0, 1, 0]) (List.append [7, 0, 1, 0, 2, 0, 1, 0, 3, 0, 1, 0, 2, 0, 1, 0, 4, 0, 1, 0, 2, 0, 1, 0, 3, 0, 1, 0, 2, 0, 1, 0, 5, 0, 1, 0, 2, 0, 1, 0, 3, 0, 1, 0, 2, 0, 1, 0, 4, 0, 1, 0, 2, 0, 1, 0, 3, 0, 1, 0, 2, 0, 1, 0] [6, 0, 1, 0, 2, 0, 1, 0, 3, 0, 1, 0, 2, 0, 1, 0, 4, 0, 1, 0, 2, 0, 1, 0, 3, 0, 1, 0, 2, 0, 1, 0, 5, 0, 1, 0, 2, 0, 1, 0, 3, 0, 1, 0, 2, 0, 1, 0, 4, 0, 1, 0, 2, 0, 1, 0, 3, 0, 1, 0, 2, 0, 1, 0]))⟩⟩ : ByteArray)) p0).bind fun v1 =>
 some ((IntKind.wrap .i64 v1))
def CZ (N : Nat) (p0 : AH) (p2 : Int) (j1 : Unit → Option Bool) : Nat → Int → Option Bool
 | 0, _ => none
 | n1 + 1, v1 =>
  AS ((v1 != 0))
   ((Cy N v1).bind fun v4 =>
   (A5 p0.fRewrite v4).bind fun v5 =>
   (A5 v5 p2).bind fun v6 =>
   AS ((!v6))
    (some false)
    (CZ N p0 p2 j1 n1 (Fm .u8 v1 ((IntKind.wrap .u8 (v1 - 1))))))
   (j1 ())
def EH (N : Nat) (p0 : AH) (p1 : Int) (p2 : Int) : Option Bool :=
 CZ N p0 p2 (fun (_ : Unit) =>
  some true) N p1
def FD (N : Nat) (p0 : Ah) (p1 : Ae) (p2 : Int) : Option (Bool × (List Int)) :=
 (A5 p0.fTables p2).bind fun v1 =>
 (EB N v1).bind fun v2 =>
 AS ((!v2))
  (some (false, p1.fHeld))
  ((ES N p1 v1.fFrom).bind fun v4 =>
  (A5 p1.fHeld p2).bind fun v5 =>
  Bb (fun (v6 : Bool) =>
   AS v6
    (some (false, p1.fHeld))
    ((A5 p1.fHeld p2).bind fun _ =>
    some (true, p1.fHeld.set ((p2).toNat) v4)))
  fun j6 =>
  (A5 p1.fHeld p2).bind fun v7 =>
  AS ((v7 == v4))
   (j6 true)
   (AS ((v1.fKind == 4))
    ((A5 p1.fBase v1.fFrom).bind fun v10 =>
    (EH N v1 ((CK .u8 v5 v4)) v10).bind fun v11 =>
    j6 (!v11))
    (j6 false)))
def EV (N : Nat) (p0 : Ah) (p1 : Ae) (p2 : Ap) : Option (Ae × Bool) :=
 (Ez N p1).bind fun v1 =>
 AS ((p2.fKind == 1))
  ((GO N p0 v1 p2).bind fun v3 =>
  some ((Ae.mk v1.fBase v3.2.1 v3.2.2), v3.1))
  (AS ((p2.fKind == 3))
   ((FD N p0 v1 p2.fIndex).bind fun v5 =>
   some ((Ae.mk v1.fBase v1.fNext v5.2), v5.1))
   ((A5 v1.fNext p2.fIndex).bind fun v6 =>
   AS ((decide (v6 < 0)))
    (some (v1, false))
    ((A5 v1.fNext p2.fIndex).bind fun _ =>
    Bb (fun (v9 : (List Int)) =>
     some ((Ae.mk v9 (v1.fNext.set ((p2.fIndex).toNat) ((-1))) v1.fHeld), true))
    fun j9 =>
    AS ((p2.fKind == 2))
     ((A5 v1.fBase p2.fIndex).bind fun _ =>
     j9 (v1.fBase.set ((p2.fIndex).toNat) v6))
     (j9 v1.fBase))))
def En (N : Nat) (p0 : Ap) (p1 : List Int) (p2 : List Int) (p3 : List Int) (p4 : List AH) (p5 : List Int) (p6 : List Int) (p7 : List Int) : Option Bool :=
 (EV N ((Ah.mk p1 p2 p3 p4)) ((Ae.mk p5 p6 p7)) p0).bind fun v1 =>
 some ((!v1.2))
def BS (N : Nat) (p0 : List Ap) (p1 : Ap → Option Bool) (j1 : Unit → Option Int) : Nat → Int → Option Int
 | 0, _ => none
 | n1 + 1, v1 =>
  AS ((decide (v1 < (p0.length : Int))))
   ((A5 p0 v1).bind fun v4 =>
   (p1 v4).bind fun v5 =>
   AS v5
    (some v1)
    (BS N p0 p1 j1 n1 (IntKind.wrap .i64 (v1 + 1))))
   (j1 ())
def CJ (N : Nat) (p0 : List Ap) (p1 : Ap → Option Bool) : Option Int :=
 BS N p0 p1 (fun (_ : Unit) =>
  some ((-1))) N 0
def BO (N : Nat) (p1 : Ap → Option Bool) (j3 : ((List Ap) × Int) → Option (Nat × (List Ap))) : Nat → ((List Ap) × Int × Int) → Option (Nat × (List Ap))
 | 0, _ => none
 | n3 + 1, v3 =>
  AS ((decide (v3.2.2 < (v3.1.length : Int))))
   (Bb (fun (v6 : (List Ap) × Int) =>
    BO N p1 j3 n3 (v6.1, v6.2, (IntKind.wrap .i64 (v3.2.2 + 1))))
   fun j6 =>
   (A5 v3.1 v3.2.2).bind fun v7 =>
   (p1 v7).bind fun v8 =>
   AS ((!v8))
    ((A5 v3.1 v3.2.1).bind fun _ =>
    j6 (v3.1.set ((v3.2.1).toNat) v7, (IntKind.wrap .i64 (v3.2.1 + 1))))
    (j6 (v3.1, v3.2.1)))
   (j3 (v3.1, v3.2.1))
def CF (N : Nat) (p0 : List Ap) (p1 : Ap → Option Bool) : Option (Nat × (List Ap)) :=
 (CJ N p0 p1).bind fun v1 =>
 AS ((v1 == (-1)))
  (some (p0.length, p0))
  (BO N p1 (fun (v4 : (List Ap) × Int) =>
   (D7 ((0 : Int) ≤ v4.2 ∧ (v4.2).toNat ≤ v4.1.length ∧ v4.1.length ≤ v4.1.length)).bind fun _ =>
   (D7 ((0 : Int) ≤ v4.2 ∧ 0 ≤ (v4.2).toNat ∧ (v4.2).toNat ≤ (H1 v4.1 ((v4.2).toNat) (List.replicate ((v4.1.length - (v4.2).toNat)) ((Ap.mk 0 0 0)))).length)).bind fun _ =>
   some ((v4.2).toNat, H1 v4.1 ((v4.2).toNat) (List.replicate ((v4.1.length - (v4.2).toNat)) ((Ap.mk 0 0 0))))) N (p0, v1, (IntKind.wrap .i64 (v1 + 1))))
def G4 (N : Nat) (p0 : Ah) (p1 : Ae) : Option ((List Ap) × Int) :=
 (Ek N p0 p1).bind fun v1 =>
 AS ((v1 != 0))
  (some (([] : List Ap), v1))
  ((IJ N p0).bind fun v3 =>
  (CF N v3 ((fun (x : Ap) => En N x p0.fVersions p0.fNow p0.fTarget p0.fTables p1.fBase p1.fNext p1.fHeld))).bind fun v4 =>
  (D7 (v4.1 ≤ v4.2.length)).bind fun _ =>
  some (v4.2.take v4.1, 0))
def FI (_ : Nat) (p0 : Ap) : Option Bool :=
 Bb (fun (v1 : Bool) =>
  AS v1
   (some false)
   (Bb (fun (v5 : Bool) =>
    some v5)
   fun j5 =>
   AS ((p0.fKind == 1))
    (j5 true)
    (j5 (p0.fVersion == 0))))
 fun j1 =>
 AS ((decide ((PD p0.fIndex p0.fVersion) < 0)))
  (j1 true)
  (AS ((decide (p0.fKind < 1)))
   (j1 true)
   (j1 (decide (4 < p0.fKind))))
def Fg (_ : Nat) (p0 : Ah) (p1 : Ap) : Option Bool :=
 AS ((p1.fKind == 3))
  (some ((decide (p1.fIndex < (p0.fTables.length : Int)))))
  (Bb (fun (v2 : Bool) =>
   some v2)
  fun j2 =>
  AS ((decide (p1.fIndex < (p0.fVersions.length : Int))))
   (AS ((p1.fKind != 1))
    (j2 true)
    ((A5 p0.fVersions p1.fIndex).bind fun v5 =>
    j2 (decide (p1.fVersion < v5))))
   (j2 false))
def EW (N : Nat) (p0 : Ah) (p1 : Ae) (p2 : Ap) : Option (Ae × Int) :=
 (FI N p2).bind fun v1 =>
 AS ((!v1))
  (some ((Ae.mk (([] : List Int)) (([] : List Int)) (([] : List Int))), 1))
  ((Fg N p0 p2).bind fun v3 =>
  AS ((!v3))
   (some ((Ae.mk (([] : List Int)) (([] : List Int)) (([] : List Int))), 4))
   ((EV N p0 p1 p2).bind fun v5 =>
   AS ((!v5.2))
    (some ((Ae.mk (([] : List Int)) (([] : List Int)) (([] : List Int))), 11))
    (some (v5.1, 0))))
def HR (N : Nat) (p0 : Ah) (p1 : Ae) (p2 : Ap) : Option (Ae × Int) :=
 (Ek N p0 p1).bind fun v1 =>
 AS ((v1 != 0))
  (some ((Ae.mk (([] : List Int)) (([] : List Int)) (([] : List Int))), v1))
  ((EW N p0 p1 p2).bind fun v3 =>
  some (v3.1, v3.2))
def Fr (N : Nat) (p0 : Ah) (p1 : Ae) (v1 : (List Ap) × Int) (j2 : ((List Ap) × (List Ae)) → Option ((List Ap) × (List Ae))) : Nat → ((List Ap) × (List Ae) × Int) → Option ((List Ap) × (List Ae))
 | 0, _ => none
 | n2 + 1, v2 =>
  AS ((decide (v2.2.2 < (v1.1.length : Int))))
   (Bb (fun (v5 : (List Ap) × (List Ae)) =>
    Fr N p0 p1 v1 j2 n2 (v5.1, v5.2, (IntKind.wrap .i64 (v2.2.2 + 1))))
   fun j5 =>
   (A5 v1.1 v2.2.2).bind fun v6 =>
   (HR N p0 p1 v6).bind fun v7 =>
   AS ((v7.2 != 0))
    (j5 (v2.1, v2.2.1))
    ((FJ N p0 v7.1).bind fun v9 =>
    AS v9.1
     ((D7 (v2.1.length + (([v6] : List Ap)).length ≤ Er)).bind fun _ =>
     (D7 (v2.2.1.length + (([v7.1] : List Ae)).length ≤ Er)).bind fun _ =>
     j5 (v2.1 ++ (([v6] : List Ap)), v2.2.1 ++ (([v7.1] : List Ae))))
     (j5 (v2.1, v2.2.1))))
   (j2 (v2.1, v2.2.1))
def GM (N : Nat) (p0 : Ah) (p1 : Ae) : Option ((List Ap) × (List Ae)) :=
 (G4 N p0 p1).bind fun v1 =>
 Fr N p0 p1 v1 (fun (v3 : (List Ap) × (List Ae)) =>
  some (v3.1, v3.2)) N (([] : List Ap), ([] : List Ae), 0)
def FX (_ : Nat) (p0 : Int) : Option Int :=
 Bb (fun (v1 : Int × Int) =>
  Bb (fun (v3 : Int × Int) =>
   (O7 ((⟨⟨(List.append (List.append [0, 1, 2, 2, 3, 3, 3, 3, 4, 4, 4, 4, 4, 4, 4, 4, 5, 5, 5, 5, 5, 5, 5, 5, 5, 5, 5, 5, 5, 5, 5, 5, 6, 6, 6, 6, 6, 6, 6, 6, 6, 6, 6, 6, 6, 6, 6, 6, 6, 6, 6, 6, 6, 6, 6, 6, 6, 6, 6, 6, 6, 6, 6, 6] [7, 7, 7, 7, 7, 7, 7, 7, 7, 7, 7, 7, 7, 7, 7, 7, 7, 7, 7, 7, 7, 7, 7, 7, 7, 7, 7, 7, 7, 7, 7, 7, 7, 7, 7, 7, 7, 7, 7, 7, 7, 7, 7, 7, 7, 7, 7, 7, 7, 7, 7, 7, 7, 7, 7, 7, 7, 7, 7, 7, 7, 7, 7, 7]) (List.append [8, 8, 8, 8, 8, 8, 8, 8, 8, 8, 8, 8, 8, 8, 8, 8, 8, 8, 8, 8, 8, 8, 8, 8, 8, 8, 8, 8, 8, 8, 8, 8, 8, 8, 8, 8, 8, 8, 8, 8, 8, 8, 8, 8, 8, 8, 8, 8, 8, 8, 8, 8, 8, 8, 8, 8, 8, 8, 8, 8, 8, 8, 8, 8] [8, 8, 8, 8, 8, 8, 8, 8, 8, 8, 8, 8, 8, 8, 8, 8, 8, 8, 8, 8, 8, 8, 8, 8, 8, 8, 8, 8, 8, 8, 8, 8, 8, 8, 8, 8, 8, 8, 8, 8, 8, 8, 8, 8, 8, 8, 8, 8, 8, 8, 8, 8, 8, 8, 8, 8, 8, 8, 8, 8, 8, 8, 8, 8]))⟩⟩ : ByteArray)) ((IntKind.wrap .u8 v3.1))).bind fun v5 =>
   some ((IntKind.wrap .i64 (v3.2 + (IntKind.wrap .i64 v5)))))
  fun j3 =>
  AS ((decide (256 ≤ v1.1)))
   (j3 ((D0 .u32 v1.1 8), (IntKind.wrap .i64 (v1.2 + 8))))
   (j3 (v1.1, v1.2)))
 fun j1 =>
 AS ((decide (65536 ≤ p0)))
  (j1 ((D0 .u32 p0 16), 16))
  (j1 (p0, 0))
def FW (_ : Nat) (p0 : Int) : Option Int :=
 Bb (fun (v1 : Int × Int) =>
  Bb (fun (v3 : Int × Int) =>
   Bb (fun (v5 : Int × Int) =>
    (O7 ((⟨⟨(List.append (List.append [0, 1, 2, 2, 3, 3, 3, 3, 4, 4, 4, 4, 4, 4, 4, 4, 5, 5, 5, 5, 5, 5, 5, 5, 5, 5, 5, 5, 5, 5, 5, 5, 6, 6, 6, 6, 6, 6, 6, 6, 6, 6, 6, 6, 6, 6, 6, 6, 6, 6, 6, 6, 6, 6, 6, 6, 6, 6, 6, 6, 6, 6, 6, 6] [7, 7, 7, 7, 7, 7, 7, 7, 7, 7, 7, 7, 7, 7, 7, 7, 7, 7, 7, 7, 7, 7, 7, 7, 7, 7, 7, 7, 7, 7, 7, 7, 7, 7, 7, 7, 7, 7, 7, 7, 7, 7, 7, 7, 7, 7, 7, 7, 7, 7, 7, 7, 7, 7, 7, 7, 7, 7, 7, 7, 7, 7, 7, 7]) (List.append [8, 8, 8, 8, 8, 8, 8, 8, 8, 8, 8, 8, 8, 8, 8, 8, 8, 8, 8, 8, 8, 8, 8, 8, 8, 8, 8, 8, 8, 8, 8, 8, 8, 8, 8, 8, 8, 8, 8, 8, 8, 8, 8, 8, 8, 8, 8, 8, 8, 8, 8, 8, 8, 8, 8, 8, 8, 8, 8, 8, 8, 8, 8, 8] [8, 8, 8, 8, 8, 8, 8, 8, 8, 8, 8, 8, 8, 8, 8, 8, 8, 8, 8, 8, 8, 8, 8, 8, 8, 8, 8, 8, 8, 8, 8, 8, 8, 8, 8, 8, 8, 8, 8, 8, 8, 8, 8, 8, 8, 8, 8, 8, 8, 8, 8, 8, 8, 8, 8, 8, 8, 8, 8, 8, 8, 8, 8, 8]))⟩⟩ : ByteArray)) ((IntKind.wrap .u8 v5.1))).bind fun v7 =>
    some ((IntKind.wrap .i64 (v5.2 + (IntKind.wrap .i64 v7)))))
   fun j5 =>
   AS ((decide (256 ≤ v3.1)))
    (j5 ((D0 .u64 v3.1 8), (IntKind.wrap .i64 (v3.2 + 8))))
    (j5 (v3.1, v3.2)))
  fun j3 =>
  AS ((decide (65536 ≤ v1.1)))
   (j3 ((D0 .u64 v1.1 16), (IntKind.wrap .i64 (v1.2 + 16))))
   (j3 (v1.1, v1.2)))
 fun j1 =>
 AS ((decide (4294967296 ≤ p0)))
  (j1 ((D0 .u64 p0 32), 32))
  (j1 (p0, 0))
def Fo (N : Nat) (p0 : Int) : Option Int :=
 AS false
  ((FX N ((IntKind.wrap .u32 p0))).bind fun v2 =>
  some v2)
  ((FW N p0).bind fun v3 =>
  some v3)
def BM (N : Nat) (p1 : Int) (p3 : (Ae × Ae) → Option Int) (j4 : ((List Ae)) → Option ((List Ae))) : Nat → ((List Ae) × Int) → Option ((List Ae))
 | 0, _ => none
 | n4 + 1, v4 =>
  Bb (fun (v6 : Bool) =>
   AS v6
    ((A5 v4.1 ((IntKind.wrap .i64 (v4.2 - 1)))).bind fun v12 =>
    (A5 v4.1 v4.2).bind fun v13 =>
    (A5 v4.1 v4.2).bind fun _ =>
    (A5 (v4.1.set ((v4.2).toNat) v12) ((IntKind.wrap .i64 (v4.2 - 1)))).bind fun _ =>
    BM N p1 p3 j4 n4 ((v4.1.set ((v4.2).toNat) v12).set (((IntKind.wrap .i64 (v4.2 - 1))).toNat) v13, (IntKind.wrap .i64 (v4.2 - 1))))
    (j4 v4.1))
  fun j6 =>
  AS ((decide (p1 < v4.2)))
   ((A5 v4.1 v4.2).bind fun v8 =>
   (A5 v4.1 ((IntKind.wrap .i64 (v4.2 - 1)))).bind fun v9 =>
   (p3 ((v8, v9))).bind fun v10 =>
   j6 (decide (v10 < 0)))
   (j6 false)
def BL (N : Nat) (p1 : Int) (p2 : Int) (p3 : (Ae × Ae) → Option Int) (j1 : ((List Ae)) → Option ((List Ae))) : Nat → ((List Ae) × Int) → Option ((List Ae))
 | 0, _ => none
 | n1 + 1, v1 =>
  AS ((decide (v1.2 < p2)))
   (BM N p1 p3 (fun (v5 : (List Ae)) =>
    BL N p1 p2 p3 j1 n1 (v5, (IntKind.wrap .i64 (v1.2 + 1)))) N (v1.1, v1.2))
   (j1 v1.1)
def CE (N : Nat) (p0 : List Ae) (p1 : Int) (p2 : Int) (p3 : (Ae × Ae) → Option Int) : Option ((List Ae)) :=
 BL N p1 p2 p3 (fun (v2 : (List Ae)) =>
  some v2) N (p0, (IntKind.wrap .i64 (p1 + 1)))
def Cf (N : Nat) (p2 : Int) (p3 : Int) (p4 : (Ae × Ae) → Option Int) (j1 : ((List Ae)) → Option ((List Ae))) : Nat → ((List Ae) × Int) → Option ((List Ae))
 | 0, _ => none
 | n1 + 1, v1 =>
  AS ((decide (p2 ≤ (IntKind.wrap .i64 ((IntKind.wrap .i64 (2 * v1.2)) + 1)))))
   (j1 v1.1)
   (Bb (fun (v4 : Int) =>
    (A5 v1.1 ((IntKind.wrap .i64 (p3 + v1.2)))).bind fun v11 =>
    (A5 v1.1 ((IntKind.wrap .i64 (p3 + v4)))).bind fun v12 =>
    (p4 ((v11, v12))).bind fun v13 =>
    AS ((!((decide (v13 < 0)))))
     (some v1.1)
     ((A5 v1.1 ((IntKind.wrap .i64 (p3 + v4)))).bind fun v15 =>
     (A5 v1.1 ((IntKind.wrap .i64 (p3 + v1.2)))).bind fun v16 =>
     (A5 v1.1 ((IntKind.wrap .i64 (p3 + v1.2)))).bind fun _ =>
     (A5 (v1.1.set (((IntKind.wrap .i64 (p3 + v1.2))).toNat) v15) ((IntKind.wrap .i64 (p3 + v4)))).bind fun _ =>
     Cf N p2 p3 p4 j1 n1 ((v1.1.set (((IntKind.wrap .i64 (p3 + v1.2))).toNat) v15).set (((IntKind.wrap .i64 (p3 + v4))).toNat) v16, v4)))
   fun j4 =>
   Bb (fun (v5 : Bool) =>
    AS v5
     (j4 (IntKind.wrap .i64 ((IntKind.wrap .i64 ((IntKind.wrap .i64 (2 * v1.2)) + 1)) + 1)))
     (j4 (IntKind.wrap .i64 ((IntKind.wrap .i64 (2 * v1.2)) + 1))))
   fun j5 =>
   AS ((decide ((IntKind.wrap .i64 ((IntKind.wrap .i64 ((IntKind.wrap .i64 (2 * v1.2)) + 1)) + 1)) < p2)))
    ((A5 v1.1 ((IntKind.wrap .i64 (p3 + (IntKind.wrap .i64 ((IntKind.wrap .i64 (2 * v1.2)) + 1)))))).bind fun v7 =>
    (A5 v1.1 ((IntKind.wrap .i64 ((IntKind.wrap .i64 (p3 + (IntKind.wrap .i64 ((IntKind.wrap .i64 (2 * v1.2)) + 1)))) + 1)))).bind fun v8 =>
    (p4 ((v7, v8))).bind fun v9 =>
    j5 (decide (v9 < 0)))
    (j5 false))
def Cw (N : Nat) (p0 : List Ae) (p1 : Int) (p2 : Int) (p3 : Int) (p4 : (Ae × Ae) → Option Int) : Option ((List Ae)) :=
 Cf N p2 p3 p4 (fun (v2 : (List Ae)) =>
  some v2) N (p0, p1)
def Cd (N : Nat) (p1 : Int) (p2 : Int) (p3 : (Ae × Ae) → Option Int) (j1 : ((List Ae)) → Option ((List Ae))) : Nat → ((List Ae) × Int) → Option ((List Ae))
 | 0, _ => none
 | n1 + 1, v1 =>
  AS ((decide (0 ≤ v1.2)))
   ((Cw N v1.1 v1.2 ((IntKind.wrap .i64 (p2 - p1))) p1 p3).bind fun v4 =>
   Cd N p1 p2 p3 j1 n1 (v4, (IntKind.wrap .i64 (v1.2 - 1))))
   (j1 v1.1)
def Ce (N : Nat) (p1 : Int) (p3 : (Ae × Ae) → Option Int) (j5 : ((List Ae)) → Option ((List Ae))) : Nat → ((List Ae) × Int) → Option ((List Ae))
 | 0, _ => none
 | n5 + 1, v5 =>
  AS ((decide (0 ≤ v5.2)))
   ((A5 v5.1 ((IntKind.wrap .i64 (p1 + v5.2)))).bind fun v8 =>
   (A5 v5.1 p1).bind fun v9 =>
   (A5 v5.1 p1).bind fun _ =>
   (A5 (v5.1.set ((p1).toNat) v8) ((IntKind.wrap .i64 (p1 + v5.2)))).bind fun _ =>
   (Cw N ((v5.1.set ((p1).toNat) v8).set (((IntKind.wrap .i64 (p1 + v5.2))).toNat) v9) 0 v5.2 p1 p3).bind fun v12 =>
   Ce N p1 p3 j5 n5 (v12, (IntKind.wrap .i64 (v5.2 - 1))))
   (j5 v5.1)
def Di (N : Nat) (p0 : List Ae) (p1 : Int) (p2 : Int) (p3 : (Ae × Ae) → Option Int) : Option ((List Ae)) :=
 Cd N p1 p2 p3 (fun (v2 : (List Ae)) =>
  Ce N p1 p3 (fun (v6 : (List Ae)) =>
   some v6) N (v2, (IntKind.wrap .i64 ((IntKind.wrap .i64 (p2 - p1)) - 1)))) N (p0, (IntKind.wrap .i64 (Int.tdiv ((IntKind.wrap .i64 ((IntKind.wrap .i64 (p2 - p1)) - 1))) 2)))
def Ep (N : Nat) (p0 : Int) : Option Int :=
 (Fo N ((IntKind.wrap .u64 p0))).bind fun v1 =>
 (D7 (0 ≤ v1)).bind fun _ =>
 some ((Co .u64 1 v1))
def Ex (_ : Nat) (p0 : Int) : Option (Int × Int) :=
 some ((FZ .u64 ((FZ .u64 ((FZ .u64 p0 ((Co .u64 p0 13)))) ((D0 .u64 ((FZ .u64 p0 ((Co .u64 p0 13)))) 7)))) ((Co .u64 ((FZ .u64 ((FZ .u64 p0 ((Co .u64 p0 13)))) ((D0 .u64 ((FZ .u64 p0 ((Co .u64 p0 13)))) 7)))) 17))), (FZ .u64 ((FZ .u64 ((FZ .u64 p0 ((Co .u64 p0 13)))) ((D0 .u64 ((FZ .u64 p0 ((Co .u64 p0 13)))) 7)))) ((Co .u64 ((FZ .u64 ((FZ .u64 p0 ((Co .u64 p0 13)))) ((D0 .u64 ((FZ .u64 p0 ((Co .u64 p0 13)))) 7)))) 17))))
def BK (N : Nat) (p1 : Int) (p2 : Int) (v2 : Int) (j3 : ((List Ae)) → Option ((List Ae))) : Nat → ((List Ae) × Int × Int) → Option ((List Ae))
 | 0, _ => none
 | n3 + 1, v3 =>
  AS ((decide (v3.2.2 ≤ (IntKind.wrap .i64 ((IntKind.wrap .i64 (p1 + (IntKind.wrap .i64 ((IntKind.wrap .i64 (Int.tdiv ((IntKind.wrap .i64 (p2 - p1))) 4)) * 2)))) + 1)))))
   ((Ex N v3.2.1).bind fun v6 =>
   Bb (fun (v7 : Int) =>
    (A5 v3.1 ((IntKind.wrap .i64 (p1 + v7)))).bind fun v9 =>
    (A5 v3.1 v3.2.2).bind fun v10 =>
    (A5 v3.1 v3.2.2).bind fun _ =>
    (A5 (v3.1.set ((v3.2.2).toNat) v9) ((IntKind.wrap .i64 (p1 + v7)))).bind fun _ =>
    BK N p1 p2 v2 j3 n3 ((v3.1.set ((v3.2.2).toNat) v9).set (((IntKind.wrap .i64 (p1 + v7))).toNat) v10, v6.2, (IntKind.wrap .i64 (v3.2.2 + 1))))
   fun j7 =>
   AS ((decide ((IntKind.wrap .i64 (p2 - p1)) ≤ (IntKind.wrap .i64 ((Fm .u64 v6.1 ((IntKind.wrap .u64 (v2 - 1)))))))))
    (j7 (IntKind.wrap .i64 ((IntKind.wrap .i64 ((Fm .u64 v6.1 ((IntKind.wrap .u64 (v2 - 1)))))) - (IntKind.wrap .i64 (p2 - p1)))))
    (j7 (IntKind.wrap .i64 ((Fm .u64 v6.1 ((IntKind.wrap .u64 (v2 - 1))))))))
   (j3 v3.1)
def CD (N : Nat) (p0 : List Ae) (p1 : Int) (p2 : Int) (_ : (Ae × Ae) → Option Int) : Option ((List Ae)) :=
 AS ((decide (8 ≤ (IntKind.wrap .i64 (p2 - p1)))))
  ((Ep N ((IntKind.wrap .i64 (p2 - p1)))).bind fun v2 =>
  BK N p1 p2 v2 (fun (v4 : (List Ae)) =>
   some v4) N (p0, (IntKind.wrap .u64 ((IntKind.wrap .i64 (p2 - p1)))), (IntKind.wrap .i64 ((IntKind.wrap .i64 (p1 + (IntKind.wrap .i64 ((IntKind.wrap .i64 (Int.tdiv ((IntKind.wrap .i64 (p2 - p1))) 4)) * 2)))) - 1))))
  (some p0)
def B9 (_ : Nat) (p0 : List Ae) (p1 : Int) (p2 : Int) (p3 : Int) (p4 : (Ae × Ae) → Option Int) : Option (Int × Int × Int) :=
 (A5 p0 p2).bind fun v1 =>
 (A5 p0 p1).bind fun v2 =>
 (p4 ((v1, v2))).bind fun v3 =>
 AS ((decide (v3 < 0)))
  (some (p2, p1, (IntKind.wrap .i64 (p3 + 1))))
  (some (p1, p2, p3))
def CC (N : Nat) (p0 : List Ae) (p1 : Int) (p2 : Int) (p3 : Int) (p4 : Int) (p5 : (Ae × Ae) → Option Int) : Option (Int × Int) :=
 (B9 N p0 p1 p2 p4 p5).bind fun v1 =>
 (B9 N p0 v1.2.1 p3 v1.2.2 p5).bind fun v2 =>
 (B9 N p0 v1.1 v2.1 v2.2.2 p5).bind fun v3 =>
 some (v3.2.1, v3.2.2)
def Bp (N : Nat) (p0 : List Ae) (p1 : Int) (p2 : Int) (p3 : (Ae × Ae) → Option Int) : Option (Int × Int) :=
 (CC N p0 ((IntKind.wrap .i64 (p1 - 1))) p1 ((IntKind.wrap .i64 (p1 + 1))) p2 p3).bind fun v1 =>
 some (v1.1, v1.2)
def CR (N : Nat) (p0 : List Ae) (p1 : Int) (p2 : Int) (p3 : (Ae × Ae) → Option Int) : Option (Int × Int) :=
 Bb (fun (v1 : Int × Int) =>
  AS ((v1.1 == 0))
   (some (v1.2, 1))
   (AS ((v1.1 == 12))
    (some (v1.2, 2))
    (some (v1.2, 0))))
 fun j1 =>
 AS ((decide (8 ≤ (IntKind.wrap .i64 (p2 - p1)))))
  (Bb (fun (v3 : Int × Int × Int × Int) =>
   (CC N p0 v3.2.1 v3.2.2.1 v3.2.2.2 v3.1 p3).bind fun v8 =>
   j1 (v8.2, v8.1))
  fun j3 =>
  AS ((decide (50 ≤ (IntKind.wrap .i64 (p2 - p1)))))
   ((Bp N p0 ((IntKind.wrap .i64 (p1 + (IntKind.wrap .i64 ((IntKind.wrap .i64 (Int.tdiv ((IntKind.wrap .i64 (p2 - p1))) 4)) * 1))))) 0 p3).bind fun v5 =>
   (Bp N p0 ((IntKind.wrap .i64 (p1 + (IntKind.wrap .i64 ((IntKind.wrap .i64 (Int.tdiv ((IntKind.wrap .i64 (p2 - p1))) 4)) * 2))))) v5.2 p3).bind fun v6 =>
   (Bp N p0 ((IntKind.wrap .i64 (p1 + (IntKind.wrap .i64 ((IntKind.wrap .i64 (Int.tdiv ((IntKind.wrap .i64 (p2 - p1))) 4)) * 3))))) v6.2 p3).bind fun v7 =>
   j3 (v7.2, v5.1, v6.1, v7.1))
   (j3 (0, (IntKind.wrap .i64 (p1 + (IntKind.wrap .i64 ((IntKind.wrap .i64 (Int.tdiv ((IntKind.wrap .i64 (p2 - p1))) 4)) * 1)))), (IntKind.wrap .i64 (p1 + (IntKind.wrap .i64 ((IntKind.wrap .i64 (Int.tdiv ((IntKind.wrap .i64 (p2 - p1))) 4)) * 2)))), (IntKind.wrap .i64 (p1 + (IntKind.wrap .i64 ((IntKind.wrap .i64 (Int.tdiv ((IntKind.wrap .i64 (p2 - p1))) 4)) * 3)))))))
  (j1 (0, (IntKind.wrap .i64 (p1 + (IntKind.wrap .i64 ((IntKind.wrap .i64 (Int.tdiv ((IntKind.wrap .i64 (p2 - p1))) 4)) * 2))))))
def BQ (N : Nat) (j1 : ((List Ae)) → Option ((List Ae))) : Nat → ((List Ae) × Int × Int) → Option ((List Ae))
 | 0, _ => none
 | n1 + 1, v1 =>
  AS ((decide (v1.2.1 < v1.2.2)))
   ((A5 v1.1 v1.2.2).bind fun v4 =>
   (A5 v1.1 v1.2.1).bind fun v5 =>
   (A5 v1.1 v1.2.1).bind fun _ =>
   (A5 (v1.1.set ((v1.2.1).toNat) v4) v1.2.2).bind fun _ =>
   BQ N j1 n1 ((v1.1.set ((v1.2.1).toNat) v4).set ((v1.2.2).toNat) v5, (IntKind.wrap .i64 (v1.2.1 + 1)), (IntKind.wrap .i64 (v1.2.2 - 1))))
   (j1 v1.1)
def CN (N : Nat) (p0 : List Ae) (p1 : Int) (p2 : Int) (_ : (Ae × Ae) → Option Int) : Option ((List Ae)) :=
 BQ N (fun (v2 : (List Ae)) =>
  some v2) N (p0, p1, (IntKind.wrap .i64 (p2 - 1)))
def Bj (N : Nat) (p2 : Int) (p3 : (Ae × Ae) → Option Int) (v1 : (List Ae) × Int × Int) (j5 : Int → Option (Bool × (List Ae))) : Nat → Int → Option (Bool × (List Ae))
 | 0, _ => none
 | n5 + 1, v5 =>
  Bb (fun (v7 : Bool) =>
   AS v7
    (Bj N p2 p3 v1 j5 n5 (IntKind.wrap .i64 (v5 + 1)))
    (j5 v5))
  fun j7 =>
  AS ((decide (v5 < p2)))
   ((A5 v1.1 v5).bind fun v9 =>
   (A5 v1.1 ((IntKind.wrap .i64 (v5 - 1)))).bind fun v10 =>
   (p3 ((v9, v10))).bind fun v11 =>
   j7 (!((decide (v11 < 0)))))
   (j7 false)
def Bg (N : Nat) (p3 : (Ae × Ae) → Option Int) (j21 : ((List Ae)) → Option (Bool × (List Ae))) : Nat → ((List Ae) × Int) → Option (Bool × (List Ae))
 | 0, _ => none
 | n21 + 1, v21 =>
  AS ((decide (1 ≤ v21.2)))
   ((A5 v21.1 v21.2).bind fun v24 =>
   (A5 v21.1 ((IntKind.wrap .i64 (v21.2 - 1)))).bind fun v25 =>
   (p3 ((v24, v25))).bind fun v26 =>
   AS ((!((decide (v26 < 0)))))
    (j21 v21.1)
    ((A5 v21.1 ((IntKind.wrap .i64 (v21.2 - 1)))).bind fun v28 =>
    (A5 v21.1 v21.2).bind fun v29 =>
    (A5 v21.1 v21.2).bind fun _ =>
    (A5 (v21.1.set ((v21.2).toNat) v28) ((IntKind.wrap .i64 (v21.2 - 1)))).bind fun _ =>
    Bg N p3 j21 n21 ((v21.1.set ((v21.2).toNat) v28).set (((IntKind.wrap .i64 (v21.2 - 1))).toNat) v29, (IntKind.wrap .i64 (v21.2 - 1)))))
   (j21 v21.1)
def Bf (N : Nat) (p2 : Int) (p3 : (Ae × Ae) → Option Int) (j33 : ((List Ae)) → Option (Bool × (List Ae))) : Nat → ((List Ae) × Int) → Option (Bool × (List Ae))
 | 0, _ => none
 | n33 + 1, v33 =>
  AS ((decide (v33.2 < p2)))
   ((A5 v33.1 v33.2).bind fun v36 =>
   (A5 v33.1 ((IntKind.wrap .i64 (v33.2 - 1)))).bind fun v37 =>
   (p3 ((v36, v37))).bind fun v38 =>
   AS ((!((decide (v38 < 0)))))
    (j33 v33.1)
    ((A5 v33.1 ((IntKind.wrap .i64 (v33.2 - 1)))).bind fun v40 =>
    (A5 v33.1 v33.2).bind fun v41 =>
    (A5 v33.1 v33.2).bind fun _ =>
    (A5 (v33.1.set ((v33.2).toNat) v40) ((IntKind.wrap .i64 (v33.2 - 1)))).bind fun _ =>
    Bf N p2 p3 j33 n33 ((v33.1.set ((v33.2).toNat) v40).set (((IntKind.wrap .i64 (v33.2 - 1))).toNat) v41, (IntKind.wrap .i64 (v33.2 + 1)))))
   (j33 v33.1)
def Bl (N : Nat) (p1 : Int) (p2 : Int) (p3 : (Ae × Ae) → Option Int) (j1 : ((List Ae)) → Option (Bool × (List Ae))) : Nat → ((List Ae) × Int × Int) → Option (Bool × (List Ae))
 | 0, _ => none
 | n1 + 1, v1 =>
  AS ((decide (v1.2.2 < 5)))
   (Bb (fun (v4 : (List Ae) × Int) =>
    Bl N p1 p2 p3 j1 n1 (v4.1, v4.2, (IntKind.wrap .i64 (v1.2.2 + 1))))
   fun j4 =>
   Bj N p2 p3 v1 (fun (v6 : Int) =>
    AS ((v6 == p2))
     (some (true, v1.1))
     (AS ((decide ((IntKind.wrap .i64 (p2 - p1)) < 50)))
      (some (false, v1.1))
      ((A5 v1.1 ((IntKind.wrap .i64 (v6 - 1)))).bind fun v15 =>
      (A5 v1.1 v6).bind fun v16 =>
      (A5 v1.1 v6).bind fun _ =>
      (A5 (v1.1.set ((v6).toNat) v15) ((IntKind.wrap .i64 (v6 - 1)))).bind fun _ =>
      Bb (fun (v19 : (List Ae)) =>
       AS ((decide (2 ≤ (IntKind.wrap .i64 (p2 - v6)))))
        (Bf N p2 p3 (fun (v34 : (List Ae)) =>
         j4 (v34, v6)) N (v19, (IntKind.wrap .i64 (v6 + 1))))
        (j4 (v19, v6)))
      fun j19 =>
      AS ((decide (2 ≤ (IntKind.wrap .i64 (v6 - p1)))))
       (Bg N p3 (fun (v22 : (List Ae)) =>
        j19 v22) N ((v1.1.set ((v6).toNat) v15).set (((IntKind.wrap .i64 (v6 - 1))).toNat) v16, (IntKind.wrap .i64 (v6 - 1))))
       (j19 ((v1.1.set ((v6).toNat) v15).set (((IntKind.wrap .i64 (v6 - 1))).toNat) v16))))) N v1.2.1)
   (j1 v1.1)
def Ca (N : Nat) (p0 : List Ae) (p1 : Int) (p2 : Int) (p3 : (Ae × Ae) → Option Int) : Option (Bool × (List Ae)) :=
 Bl N p1 p2 p3 (fun (v2 : (List Ae)) =>
  some (false, v2)) N (p0, (IntKind.wrap .i64 (p1 + 1)), 0)
def BB (N : Nat) (p1 : Int) (p4 : (Ae × Ae) → Option Int) (v5 : (List Ae) × Int × Int) (j7 : Int → Option (Int × (List Ae))) : Nat → Int → Option (Int × (List Ae))
 | 0, _ => none
 | n7 + 1, v7 =>
  Bb (fun (v9 : Bool) =>
   AS v9
    (BB N p1 p4 v5 j7 n7 (IntKind.wrap .i64 (v7 + 1)))
    (j7 v7))
  fun j9 =>
  AS ((decide (v7 ≤ v5.2.2)))
   ((A5 v5.1 p1).bind fun v11 =>
   (A5 v5.1 v7).bind fun v12 =>
   (p4 ((v11, v12))).bind fun v13 =>
   j9 (!((decide (v13 < 0)))))
   (j9 false)
def Bx (N : Nat) (p1 : Int) (p4 : (Ae × Ae) → Option Int) (v5 : (List Ae) × Int × Int) (v8 : Int) (j15 : Int → Option (Int × (List Ae))) : Nat → Int → Option (Int × (List Ae))
 | 0, _ => none
 | n15 + 1, v15 =>
  Bb (fun (v17 : Bool) =>
   AS v17
    (Bx N p1 p4 v5 v8 j15 n15 (IntKind.wrap .i64 (v15 - 1)))
    (j15 v15))
  fun j17 =>
  AS ((decide (v8 ≤ v15)))
   ((A5 v5.1 p1).bind fun v19 =>
   (A5 v5.1 v15).bind fun v20 =>
   (p4 ((v19, v20))).bind fun v21 =>
   j17 (decide (v21 < 0)))
   (j17 false)
def BC (N : Nat) (p1 : Int) (p4 : (Ae × Ae) → Option Int) (j5 : ((List Ae) × Int) → Option (Int × (List Ae))) : Nat → ((List Ae) × Int × Int) → Option (Int × (List Ae))
 | 0, _ => none
 | n5 + 1, v5 =>
  BB N p1 p4 v5 (fun (v8 : Int) =>
   Bx N p1 p4 v5 v8 (fun (v16 : Int) =>
    AS ((decide (v16 < v8)))
     (j5 (v5.1, v8))
     ((A5 v5.1 v16).bind fun v24 =>
     (A5 v5.1 v8).bind fun v25 =>
     (A5 v5.1 v8).bind fun _ =>
     (A5 (v5.1.set ((v8).toNat) v24) v16).bind fun _ =>
     BC N p1 p4 j5 n5 ((v5.1.set ((v8).toNat) v24).set ((v16).toNat) v25, (IntKind.wrap .i64 (v8 + 1)), (IntKind.wrap .i64 (v16 - 1))))) N v5.2.2) N v5.2.1
def CA (N : Nat) (p0 : List Ae) (p1 : Int) (p2 : Int) (p3 : Int) (p4 : (Ae × Ae) → Option Int) : Option (Int × (List Ae)) :=
 (A5 p0 p3).bind fun v1 =>
 (A5 p0 p1).bind fun v2 =>
 (A5 p0 p1).bind fun _ =>
 (A5 (p0.set ((p1).toNat) v1) p3).bind fun _ =>
 BC N p1 p4 (fun (v6 : (List Ae) × Int) =>
  some (v6.2, v6.1)) N ((p0.set ((p1).toNat) v1).set ((p3).toNat) v2, (IntKind.wrap .i64 (p1 + 1)), (IntKind.wrap .i64 (p2 - 1)))
def B8 (N : Nat) (p0 : List Ae) (p1 : Int) (p2 : Int) (p3 : Int) (p4 : (Ae × Ae) → Option Int) (v1 : Ae) (v2 : Ae) (j5 : Int → Option (Int × Bool × (List Ae))) : Nat → Int → Option (Int × Bool × (List Ae))
 | 0, _ => none
 | n5 + 1, v5 =>
  Bb (fun (v7 : Bool) =>
   AS v7
    (B8 N p0 p1 p2 p3 p4 v1 v2 j5 n5 (IntKind.wrap .i64 (v5 + 1)))
    (j5 v5))
  fun j7 =>
  AS ((decide (v5 ≤ (IntKind.wrap .i64 (p2 - 1)))))
   ((A5 ((p0.set ((p1).toNat) v1).set ((p3).toNat) v2) v5).bind fun v9 =>
   (A5 ((p0.set ((p1).toNat) v1).set ((p3).toNat) v2) p1).bind fun v10 =>
   (p4 ((v9, v10))).bind fun v11 =>
   j7 (decide (v11 < 0)))
   (j7 false)
def B3 (N : Nat) (p0 : List Ae) (p1 : Int) (p3 : Int) (p4 : (Ae × Ae) → Option Int) (v1 : Ae) (v2 : Ae) (v6 : Int) (j13 : Int → Option (Int × Bool × (List Ae))) : Nat → Int → Option (Int × Bool × (List Ae))
 | 0, _ => none
 | n13 + 1, v13 =>
  Bb (fun (v15 : Bool) =>
   AS v15
    (B3 N p0 p1 p3 p4 v1 v2 v6 j13 n13 (IntKind.wrap .i64 (v13 - 1)))
    (j13 v13))
  fun j15 =>
  AS ((decide (v6 ≤ v13)))
   ((A5 ((p0.set ((p1).toNat) v1).set ((p3).toNat) v2) v13).bind fun v17 =>
   (A5 ((p0.set ((p1).toNat) v1).set ((p3).toNat) v2) p1).bind fun v18 =>
   (p4 ((v17, v18))).bind fun v19 =>
   j15 (!((decide (v19 < 0)))))
   (j15 false)
def B0 (N : Nat) (p1 : Int) (p4 : (Ae × Ae) → Option Int) (v30 : (List Ae) × Int × Int) (j32 : Int → Option (Int × Bool × (List Ae))) : Nat → Int → Option (Int × Bool × (List Ae))
 | 0, _ => none
 | n32 + 1, v32 =>
  Bb (fun (v34 : Bool) =>
   AS v34
    (B0 N p1 p4 v30 j32 n32 (IntKind.wrap .i64 (v32 + 1)))
    (j32 v32))
  fun j34 =>
  AS ((decide (v32 ≤ v30.2.2)))
   ((A5 v30.1 v32).bind fun v36 =>
   (A5 v30.1 p1).bind fun v37 =>
   (p4 ((v36, v37))).bind fun v38 =>
   j34 (decide (v38 < 0)))
   (j34 false)
def B5 (N : Nat) (p1 : Int) (p4 : (Ae × Ae) → Option Int) (v30 : (List Ae) × Int × Int) (v33 : Int) (j40 : Int → Option (Int × Bool × (List Ae))) : Nat → Int → Option (Int × Bool × (List Ae))
 | 0, _ => none
 | n40 + 1, v40 =>
  Bb (fun (v42 : Bool) =>
   AS v42
    (B5 N p1 p4 v30 v33 j40 n40 (IntKind.wrap .i64 (v40 - 1)))
    (j40 v40))
  fun j42 =>
  AS ((decide (v33 ≤ v40)))
   ((A5 v30.1 v40).bind fun v44 =>
   (A5 v30.1 p1).bind fun v45 =>
   (p4 ((v44, v45))).bind fun v46 =>
   j42 (!((decide (v46 < 0)))))
   (j42 false)
def B2 (N : Nat) (p1 : Int) (p4 : (Ae × Ae) → Option Int) (j30 : ((List Ae) × Int) → Option (Int × Bool × (List Ae))) : Nat → ((List Ae) × Int × Int) → Option (Int × Bool × (List Ae))
 | 0, _ => none
 | n30 + 1, v30 =>
  B0 N p1 p4 v30 (fun (v33 : Int) =>
   B5 N p1 p4 v30 v33 (fun (v41 : Int) =>
    AS ((decide (v41 < v33)))
     (j30 (v30.1, v41))
     ((A5 v30.1 v41).bind fun v49 =>
     (A5 v30.1 v33).bind fun v50 =>
     (A5 v30.1 v33).bind fun _ =>
     (A5 (v30.1.set ((v33).toNat) v49) v41).bind fun _ =>
     B2 N p1 p4 j30 n30 ((v30.1.set ((v33).toNat) v49).set ((v41).toNat) v50, (IntKind.wrap .i64 (v33 + 1)), (IntKind.wrap .i64 (v41 - 1))))) N v30.2.2) N v30.2.1
def C8 (N : Nat) (p0 : List Ae) (p1 : Int) (p2 : Int) (p3 : Int) (p4 : (Ae × Ae) → Option Int) : Option (Int × Bool × (List Ae)) :=
 (A5 p0 p3).bind fun v1 =>
 (A5 p0 p1).bind fun v2 =>
 (A5 p0 p1).bind fun _ =>
 (A5 (p0.set ((p1).toNat) v1) p3).bind fun _ =>
 B8 N p0 p1 p2 p3 p4 v1 v2 (fun (v6 : Int) =>
  B3 N p0 p1 p3 p4 v1 v2 v6 (fun (v14 : Int) =>
   AS ((decide (v14 < v6)))
    ((A5 ((p0.set ((p1).toNat) v1).set ((p3).toNat) v2) p1).bind fun v22 =>
    (A5 ((p0.set ((p1).toNat) v1).set ((p3).toNat) v2) v14).bind fun v23 =>
    (A5 ((p0.set ((p1).toNat) v1).set ((p3).toNat) v2) v14).bind fun _ =>
    (A5 (((p0.set ((p1).toNat) v1).set ((p3).toNat) v2).set ((v14).toNat) v22) p1).bind fun _ =>
    some (v14, true, (((p0.set ((p1).toNat) v1).set ((p3).toNat) v2).set ((v14).toNat) v22).set ((p1).toNat) v23))
    ((A5 ((p0.set ((p1).toNat) v1).set ((p3).toNat) v2) v14).bind fun v26 =>
    (A5 ((p0.set ((p1).toNat) v1).set ((p3).toNat) v2) v6).bind fun v27 =>
    (A5 ((p0.set ((p1).toNat) v1).set ((p3).toNat) v2) v6).bind fun _ =>
    (A5 (((p0.set ((p1).toNat) v1).set ((p3).toNat) v2).set ((v6).toNat) v26) v14).bind fun _ =>
    B2 N p1 p4 (fun (v31 : (List Ae) × Int) =>
     (A5 v31.1 p1).bind fun v53 =>
     (A5 v31.1 v31.2).bind fun v54 =>
     (A5 v31.1 v31.2).bind fun _ =>
     (A5 (v31.1.set ((v31.2).toNat) v53) p1).bind fun _ =>
     some (v31.2, false, (v31.1.set ((v31.2).toNat) v53).set ((p1).toNat) v54)) N ((((p0.set ((p1).toNat) v1).set ((p3).toNat) v2).set ((v6).toNat) v26).set ((v14).toNat) v27, (IntKind.wrap .i64 (v6 + 1)), (IntKind.wrap .i64 (v14 - 1))))) N (IntKind.wrap .i64 (p2 - 1))) N (IntKind.wrap .i64 (p1 + 1))
def Bi (N : Nat) (p4 : (Ae × Ae) → Option Int) (rc : (List Ae) → Int → Int → Int → ((Ae × Ae) → Option Int) → Option ((List Ae))) (j1 : Unit → Option ((List Ae))) : Nat → ((List Ae) × Int × Int × Int × Bool × Bool) → Option ((List Ae))
 | 0, _ => none
 | n1 + 1, v1 =>
  AS ((decide ((IntKind.wrap .i64 (v1.2.2.1 - v1.2.1)) ≤ 12)))
   ((CE N v1.1 v1.2.1 v1.2.2.1 p4).bind fun v4 =>
   some v4)
   (AS ((v1.2.2.2.1 == 0))
    ((Di N v1.1 v1.2.1 v1.2.2.1 p4).bind fun v6 =>
    some v6)
    (Bb (fun (v7 : (List Ae) × Int) =>
     (CR N v7.1 v1.2.1 v1.2.2.1 p4).bind fun v10 =>
     Bb (fun (v11 : (List Ae) × Int × Int) =>
      Bb (fun (v14 : (List Ae)) =>
       Bb (fun (v21 : Bool) =>
        AS v21
         ((CA N v14 v1.2.1 v1.2.2.1 v11.2.1 p4).bind fun v27 =>
         Bi N p4 rc j1 n1 (v27.2, v27.1, v1.2.2.1, v7.2, v1.2.2.2.2.1, v1.2.2.2.2.2))
         ((C8 N v14 v1.2.1 v1.2.2.1 v11.2.1 p4).bind fun v28 =>
         AS ((decide ((IntKind.wrap .i64 (v28.1 - v1.2.1)) < (IntKind.wrap .i64 (v1.2.2.1 - v28.1)))))
          ((rc v28.2.2 v1.2.1 v28.1 v7.2 p4).bind fun v30 =>
          Bi N p4 rc j1 n1 (v30, (IntKind.wrap .i64 (v28.1 + 1)), v1.2.2.1, v7.2, (decide ((IntKind.wrap .i64 (Int.tdiv ((IntKind.wrap .i64 (v1.2.2.1 - v1.2.1))) 8)) ≤ (IntKind.wrap .i64 (v28.1 - v1.2.1)))), v28.2.1))
          ((rc v28.2.2 ((IntKind.wrap .i64 (v28.1 + 1))) v1.2.2.1 v7.2 p4).bind fun v31 =>
          Bi N p4 rc j1 n1 (v31, v1.2.1, v28.1, v7.2, (decide ((IntKind.wrap .i64 (Int.tdiv ((IntKind.wrap .i64 (v1.2.2.1 - v1.2.1))) 8)) ≤ (IntKind.wrap .i64 (v1.2.2.1 - v28.1)))), v28.2.1))))
       fun j21 =>
       AS ((decide (0 < v1.2.1)))
        ((A5 v14 ((IntKind.wrap .i64 (v1.2.1 - 1)))).bind fun v23 =>
        (A5 v14 v11.2.1).bind fun v24 =>
        (p4 ((v23, v24))).bind fun v25 =>
        j21 (!((decide (v25 < 0)))))
        (j21 false))
      fun j14 =>
      Bb (fun (v15 : Bool) =>
       AS v15
        ((Ca N v11.1 v1.2.1 v1.2.2.1 p4).bind fun v19 =>
        AS v19.1
         (some v19.2)
         (j14 v19.2))
        (j14 v11.1))
      fun j15 =>
      AS v1.2.2.2.2.1
       (AS v1.2.2.2.2.2
        (j15 (v11.2.2 == 1))
        (j15 false))
       (j15 false))
     fun j11 =>
     AS ((v10.2 == 2))
      ((CN N v7.1 v1.2.1 v1.2.2.1 p4).bind fun v13 =>
      j11 (v13, (IntKind.wrap .i64 ((IntKind.wrap .i64 (v1.2.2.1 - 1)) - (IntKind.wrap .i64 (v10.1 - v1.2.1)))), 1))
      (j11 (v7.1, v10.1, v10.2)))
    fun j7 =>
    AS ((!v1.2.2.2.2.1))
     ((CD N v1.1 v1.2.1 v1.2.2.1 p4).bind fun v9 =>
     j7 (v9, (IntKind.wrap .i64 (v1.2.2.2.1 - 1))))
     (j7 (v1.1, v1.2.2.2.1))))
def C7 (N : Nat) (rc : (List Ae) → Int → Int → Int → ((Ae × Ae) → Option Int) → Option ((List Ae))) (p0 : List Ae) (p1 : Int) (p2 : Int) (p3 : Int) (p4 : (Ae × Ae) → Option Int) : Option ((List Ae)) :=
 Bi N p4 rc (fun (_ : Unit) =>
  none) N (p0, p1, p2, p3, true, true)
def Cp (N : Nat) : Nat → (List Ae) → Int → Int → Int → ((Ae × Ae) → Option Int) → Option ((List Ae))
 | 0, _, _, _, _, _ => none
 | k + 1, p0, p1, p2, p3, p4 => C7 N (Cp N k) p0 p1 p2 p3 p4
def Eg (N : Nat) (p0 : List Ae) (p1 : Int) (p2 : Int) (p3 : Int) (p4 : (Ae × Ae) → Option Int) : Option ((List Ae)) := Cp N N p0 p1 p2 p3 p4
def Cr (N : Nat) (p0 : List Ae) (p1 : (Ae × Ae) → Option Int) : Option ((List Ae)) :=
 (Fo N ((IntKind.wrap .u64 ((p0.length : Int))))).bind fun v1 =>
 (Eg N p0 0 ((p0.length : Int)) v1 p1).bind fun v2 =>
 some v2
def Fv (_ : Nat) (p0 : Int) : Option Bool :=
 some ((p0 != p0))
def FV (N : Nat) (p0 : Int) (p1 : Int) : Option Int :=
 (Fv N p0).bind fun v1 =>
 (Fv N p1).bind fun v2 =>
 AS v1
  (AS v2
   (some 0)
   (some ((-1))))
  (AS v2
   (some 1)
   (AS ((decide (p0 < p1)))
    (some ((-1)))
    (AS ((decide (p1 < p0)))
     (some 1)
     (some 0))))
def C4 (N : Nat) (p0 : List Int) (p1 : List Int) (j1 : Unit → Option Int) : Nat → Int → Option Int
 | 0, _ => none
 | n1 + 1, v1 =>
  AS ((decide (v1 < (p0.length : Int))))
   ((A5 p0 v1).bind fun v4 =>
   AS ((decide ((p1.length : Int) ≤ v1)))
    (some 1)
    ((A5 p1 v1).bind fun v6 =>
    (FV N v4 v6).bind fun v7 =>
    AS ((v7 != 0))
     (some v7)
     (C4 N p0 p1 j1 n1 (IntKind.wrap .i64 (v1 + 1)))))
   (j1 ())
def Dy (N : Nat) (p0 : List Int) (p1 : List Int) : Option Int :=
 C4 N p0 p1 (fun (_ : Unit) =>
  AS ((decide ((p0.length : Int) < (p1.length : Int))))
   (some ((-1)))
   (some 0)) N 0
def Eh (_ : Nat) (p0 : Int) : Option Bool :=
 some ((p0 != p0))
def EI (N : Nat) (p0 : Int) (p1 : Int) : Option Int :=
 (Eh N p0).bind fun v1 =>
 (Eh N p1).bind fun v2 =>
 AS v1
  (AS v2
   (some 0)
   (some ((-1))))
  (AS v2
   (some 1)
   (AS ((decide (p0 < p1)))
    (some ((-1)))
    (AS ((decide (p1 < p0)))
     (some 1)
     (some 0))))
def Cb (N : Nat) (p0 : List Int) (p1 : List Int) (j1 : Unit → Option Int) : Nat → Int → Option Int
 | 0, _ => none
 | n1 + 1, v1 =>
  AS ((decide (v1 < (p0.length : Int))))
   ((A5 p0 v1).bind fun v4 =>
   AS ((decide ((p1.length : Int) ≤ v1)))
    (some 1)
    ((A5 p1 v1).bind fun v6 =>
    (EI N v4 v6).bind fun v7 =>
    AS ((v7 != 0))
     (some v7)
     (Cb N p0 p1 j1 n1 (IntKind.wrap .i64 (v1 + 1)))))
   (j1 ())
def Dj (N : Nat) (p0 : List Int) (p1 : List Int) : Option Int :=
 Cb N p0 p1 (fun (_ : Unit) =>
  AS ((decide ((p0.length : Int) < (p1.length : Int))))
   (some ((-1)))
   (some 0)) N 0
def Ft (N : Nat) (p0 : List Int) (j1 : Unit → Option Int) : Nat → Int → Option Int
 | 0, _ => none
 | n1 + 1, v1 =>
  AS ((decide (v1 < (p0.length : Int))))
   ((A5 p0 v1).bind fun v4 =>
   AS ((v4 != 0))
    (some v4)
    (Ft N p0 j1 n1 (IntKind.wrap .i64 (v1 + 1))))
   (j1 ())
def HU (N : Nat) (p0 : List Int) : Option Int :=
 Ft N p0 (fun (_ : Unit) =>
  some 0) N 0
def D8 (N : Nat) (p0 : Ae) (p1 : Ae) : Option Int :=
 (Dy N p0.fBase p1.fBase).bind fun v1 =>
 (Dy N p0.fNext p1.fNext).bind fun v2 =>
 (Dj N p0.fHeld p1.fHeld).bind fun v3 =>
 (HU N (([v1, v2, v3] : List Int))).bind fun v4 =>
 some v4
def Et (N : Nat) (v10 : (List Ap) × (List Ae)) (j11 : ((List Ae) × (List (ByteArray × Bool))) → Option ((List Ae) × Int)) : Nat → ((List Ae) × (List (ByteArray × Bool)) × Int) → Option ((List Ae) × Int)
 | 0, _ => none
 | n11 + 1, v11 =>
  AS ((decide (v11.2.2 < (v10.2.length : Int))))
   (Bb (fun (v14 : (List Ae) × (List (ByteArray × Bool))) =>
    Et N v10 j11 n11 (v14.1, v14.2, (IntKind.wrap .i64 (v11.2.2 + 1))))
   fun j14 =>
   (A5 v10.2 v11.2.2).bind fun v15 =>
   (Gs N v15).bind fun v16 =>
   AS ((!(((JJ v16 v11.2.1).getD false))))
    ((Gs N v15).bind fun v18 =>
    (D7 (v11.1.length + (([v15] : List Ae)).length ≤ Er)).bind fun _ =>
    j14 (v11.1 ++ (([v15] : List Ae)), Ke v18 true v11.2.1))
    (j14 (v11.1, v11.2.1)))
   (j11 (v11.1, v11.2.1))
def EK (N : Nat) (p0 : Ah) (j6 : ((List Ae)) → Option ((List Ae) × Int)) : Nat → ((List Ae) × (List (ByteArray × Bool)) × Int) → Option ((List Ae) × Int)
 | 0, _ => none
 | n6 + 1, v6 =>
  AS ((decide (v6.2.2 < (v6.1.length : Int))))
   ((A5 v6.1 v6.2.2).bind fun v9 =>
   (GM N p0 v9).bind fun v10 =>
   Et N v10 (fun (v12 : (List Ae) × (List (ByteArray × Bool))) =>
    AS ((decide (20000 < (v12.1.length : Int))))
     (some (([] : List Ae), 3))
     (EK N p0 j6 n6 (v12.1, v12.2, (IntKind.wrap .i64 (v6.2.2 + 1))))) N (v6.1, v6.2.1, 0))
   (j6 v6.1)
def FP (N : Nat) (p0 : Ah) : Option ((List Ae) × Int) :=
 (Gj N p0).bind fun v1 =>
 Bb (fun (v2 : Bool) =>
  AS v2
   (some (([] : List Ae), v1.2.2))
   ((Gs N v1.1).bind fun v5 =>
   EK N p0 (fun (v7 : (List Ae)) =>
    (Cr N v7 ((fun (x : Ae × Ae) => D8 N x.1 x.2))).bind fun v21 =>
    some (v21, 0)) N (([v1.1] : List Ae), Ke v5 true (([] : List (ByteArray × Bool))), 0)))
 fun j2 =>
 AS ((v1.2.2 != 0))
  (j2 true)
  (j2 (!v1.2.1))
def Fy (N : Nat) (p0 : Ah) (p1 : List Int) (j5 : ((List Ap)) → Option ((List Ap) × Int)) : Nat → ((List Int) × (List Int) × (List Int) × (List Ap) × Int) → Option ((List Ap) × Int)
 | 0, _ => none
 | n5 + 1, v5 =>
  AS ((decide (v5.2.2.2.2 < (p1.length : Int))))
   ((A5 p1 v5.2.2.2.2).bind fun v8 =>
   (GM N p0 ((Ae.mk v5.1 v5.2.1 v5.2.2.1))).bind fun v9 =>
   AS (((v9.1.length : Int) == 0))
    (j5 v5.2.2.2.1)
    ((D7 ((v9.1.length : Int) ≠ 0)).bind fun _ =>
    (A5 v9.1 ((Int.tmod ((IntKind.wrap .i64 v8)) ((v9.1.length : Int))))).bind fun v12 =>
    (D7 (v5.2.2.2.1.length + (([v12] : List Ap)).length ≤ Er)).bind fun _ =>
    (A5 v9.2 ((Int.tmod ((IntKind.wrap .i64 v8)) ((v9.1.length : Int))))).bind fun v14 =>
    Fy N p0 p1 j5 n5 (v14.fBase, v14.fNext, v14.fHeld, v5.2.2.2.1 ++ (([v12] : List Ap)), (IntKind.wrap .i64 (v5.2.2.2.2 + 1)))))
   (j5 v5.2.2.2.1)
def HV (N : Nat) (p0 : Ah) (p1 : List Int) : Option ((List Ap) × Int) :=
 (Gj N p0).bind fun v1 =>
 Bb (fun (v2 : Bool) =>
  AS v2
   (some (([] : List Ap), v1.2.2))
   (Fy N p0 p1 (fun (v6 : (List Ap)) =>
    some (v6, 0)) N (v1.1.fBase, v1.1.fNext, v1.1.fHeld, ([] : List Ap), 0)))
 fun j2 =>
 AS ((v1.2.2 != 0))
  (j2 true)
  (j2 (!v1.2.1))
def EA (N : Nat) (p0 : Ah) (p2 : List Ap) (j4 : ((List Ae)) → Option ((List Ae) × Int × Int)) : Nat → ((List Ae) × Int) → Option ((List Ae) × Int × Int)
 | 0, _ => none
 | n4 + 1, v4 =>
  AS ((decide (v4.2 < (p2.length : Int))))
   ((A5 p2 v4.2).bind fun v7 =>
   (A5 v4.1 v4.2).bind fun v8 =>
   (EW N p0 v8 v7).bind fun v9 =>
   AS ((v9.2 != 0))
    (some (([] : List Ae), v4.2, v9.2))
    ((D7 (v4.1.length + (([v9.1] : List Ae)).length ≤ Er)).bind fun _ =>
    EA N p0 p2 j4 n4 (v4.1 ++ (([v9.1] : List Ae)), (IntKind.wrap .i64 (v4.2 + 1)))))
   (j4 v4.1)
def GY (N : Nat) (p0 : Ah) (p1 : Ae) (p2 : List Ap) : Option ((List Ae) × Int × Int) :=
 (Ek N p0 p1).bind fun v1 =>
 AS ((v1 != 0))
  (some (([] : List Ae), 0, v1))
  ((Ez N p1).bind fun v3 =>
  EA N p0 p2 (fun (v5 : (List Ae)) =>
   some (v5, (p2.length : Int), 0)) N (([v3] : List Ae), 0))
def EN (N : Nat) (p0 : Ah) (p1 : List Ap) : Option ((List Ae) × Int × Int) :=
 (Fl N p0).bind fun v1 =>
 AS ((v1.2 != 0))
  (some (([] : List Ae), 0, v1.2))
  ((GY N p0 v1.1 p1).bind fun v3 =>
  some (v3.1, v3.2.1, v3.2.2))
def BN (N : Nat) (p0 : List Ae) (p1 : (Ae × Ae) → Option Bool) (v2 : Int) (j11 : ((List Ae) × Int) → Option (Nat × (List Ae))) : Nat → ((List Ae) × Int × Int) → Option (Nat × (List Ae))
 | 0, _ => none
 | n11 + 1, v11 =>
  AS ((decide (v11.2.2 < ((((p0.length - (v2).toNat)) : Nat) : Int))))
   (Bb (fun (v14 : (List Ae) × Int) =>
    BN N p0 p1 v2 j11 n11 (v14.1, v14.2, (IntKind.wrap .i64 (v11.2.2 + 1))))
   fun j14 =>
   (D7 (((v2).toNat) + ((p0.length - (v2).toNat)) ≤ v11.1.length)).bind fun _ =>
   (A5 (((v11.1.drop ((v2).toNat)).take ((p0.length - (v2).toNat)))) v11.2.2).bind fun v15 =>
   (A5 (((v11.1.drop ((v2).toNat)).take ((p0.length - (v2).toNat)))) ((IntKind.wrap .i64 (v11.2.2 - 1)))).bind fun v17 =>
   (p1 ((v15, v17))).bind fun v18 =>
   AS ((!v18))
    ((A5 (((v11.1.drop ((v2).toNat)).take ((p0.length - (v2).toNat)))) v11.2.2).bind fun v20 =>
    (A5 v11.1 v11.2.1).bind fun _ =>
    j14 (v11.1.set ((v11.2.1).toNat) v20, (IntKind.wrap .i64 (v11.2.1 + 1))))
    (j14 (v11.1, v11.2.1)))
   (j11 (v11.1, v11.2.1))
def BP (N : Nat) (p0 : List Ae) (p1 : (Ae × Ae) → Option Bool) (j2 : Unit → Option (Nat × (List Ae))) : Nat → Int → Option (Nat × (List Ae))
 | 0, _ => none
 | n2 + 1, v2 =>
  AS ((decide (v2 < (p0.length : Int))))
   ((A5 p0 v2).bind fun v5 =>
   (A5 p0 ((IntKind.wrap .i64 (v2 - 1)))).bind fun v6 =>
   (p1 ((v5, v6))).bind fun v7 =>
   AS v7
    ((D7 ((0 : Int) ≤ v2 ∧ (v2).toNat ≤ p0.length ∧ p0.length ≤ p0.length)).bind fun _ =>
    BN N p0 p1 v2 (fun (v12 : (List Ae) × Int) =>
     (D7 ((0 : Int) ≤ v12.2 ∧ (v12.2).toNat ≤ v12.1.length ∧ v12.1.length ≤ v12.1.length)).bind fun _ =>
     (D7 ((0 : Int) ≤ v12.2 ∧ 0 ≤ (v12.2).toNat ∧ (v12.2).toNat ≤ (H1 v12.1 ((v12.2).toNat) (List.replicate ((v12.1.length - (v12.2).toNat)) ((Ae.mk (([] : List Int)) (([] : List Int)) (([] : List Int)))))).length)).bind fun _ =>
     some ((v12.2).toNat, H1 v12.1 ((v12.2).toNat) (List.replicate ((v12.1.length - (v12.2).toNat)) ((Ae.mk (([] : List Int)) (([] : List Int)) (([] : List Int))))))) N (p0, v2, 1))
    (BP N p0 p1 j2 n2 (IntKind.wrap .i64 (v2 + 1))))
   (j2 ())
def CL (N : Nat) (p0 : List Ae) (p1 : (Ae × Ae) → Option Bool) : Option (Nat × (List Ae)) :=
 AS ((decide ((p0.length : Int) < 2)))
  (some (p0.length, p0))
  (BP N p0 p1 (fun (_ : Unit) =>
   some (p0.length, p0)) N 1)
def Fw (N : Nat) (p0 : Ae) (p1 : Ae) : Option Bool :=
 (D8 N p0 p1).bind fun v1 =>
 some ((v1 == 0))
def E4 (N : Nat) (p0 : Ah) (v1 : (List Ae) × Int × Int) (j3 : ((List Ae)) → Option ((List Ae) × Int)) : Nat → ((List Ae) × Int) → Option ((List Ae) × Int)
 | 0, _ => none
 | n3 + 1, v3 =>
  AS ((decide (v3.2 < (v1.1.length : Int))))
   ((A5 v1.1 v3.2).bind fun v6 =>
   (GK N p0 v6).bind fun v7 =>
   AS ((v7.2 != 0))
    (some (([] : List Ae), v7.2))
    ((D7 (v3.1.length + v7.1.length ≤ Er)).bind fun _ =>
    E4 N p0 v1 j3 n3 (v3.1 ++ v7.1, (IntKind.wrap .i64 (v3.2 + 1)))))
   (j3 v3.1)
def Ho (N : Nat) (p0 : Ah) (p1 : List Ap) : Option ((List Ae) × Int) :=
 (EN N p0 p1).bind fun v1 =>
 AS ((v1.2.2 != 0))
  (some (([] : List Ae), v1.2.2))
  (E4 N p0 v1 (fun (v4 : (List Ae)) =>
   (Cr N v4 ((fun (x : Ae × Ae) => D8 N x.1 x.2))).bind fun v10 =>
   (CL N v10 ((fun (x : Ae × Ae) => Fw N x.1 x.2))).bind fun v11 =>
   (D7 (v11.1 ≤ v11.2.length)).bind fun _ =>
   some (v11.2.take v11.1, 0)) N (([] : List Ae), 0))
def Fu (N : Nat) (p0 : Ah) (v1 : (List Ae) × Int × Int) (j3 : Unit → Option (Bool × Int)) : Nat → Int → Option (Bool × Int)
 | 0, _ => none
 | n3 + 1, v3 =>
  AS ((decide (v3 < (v1.1.length : Int))))
   ((A5 v1.1 v3).bind fun v6 =>
   (FJ N p0 v6).bind fun v7 =>
   Bb (fun (v8 : Bool) =>
    AS v8
     (some (false, v7.2))
     (Fu N p0 v1 j3 n3 (IntKind.wrap .i64 (v3 + 1))))
   fun j8 =>
   AS ((v7.2 != 0))
    (j8 true)
    (j8 (!v7.1)))
   (j3 ())
def HZ (N : Nat) (p0 : Ah) (p1 : List Ap) : Option (Bool × Int) :=
 (EN N p0 p1).bind fun v1 =>
 AS ((v1.2.2 != 0))
  (some (false, v1.2.2))
  (Fu N p0 v1 (fun (_ : Unit) =>
   some (true, 0)) N 0)
def DK (N : Nat) : Option Bool :=
 (Cn N false).bind fun v1 =>
 (FP N v1).bind fun v2 =>
 (Cn N true).bind fun v3 =>
 (FP N v3).bind fun v4 =>
 (Cn N false).bind fun v5 =>
 (HV N v5 (([1, 2, 3] : List Int))).bind fun v6 =>
 (Cn N false).bind fun v7 =>
 (Ho N v7 (([(Ap.mk 1 0 1)] : List Ap))).bind fun v8 =>
 (Cn N false).bind fun v9 =>
 (HZ N v9 (([(Ap.mk 1 0 1)] : List Ap))).bind fun v10 =>
 Bb (fun (v11 : Bool) =>
  some v11)
 fun j11 =>
 AS ((v2.2 == 0))
  (AS ((v4.2 == 0))
   (AS ((v6.2 == 0))
    (AS ((v8.2 == 0))
     (AS ((v10.2 == 0))
      (AS (((v2.1.length : Int) == 1))
       (AS (((v4.1.length : Int) == 4))
        (AS (((v6.1.length : Int) == 0))
         (AS (((v8.1.length : Int) == 2))
          (j11 (!v10.1))
          (j11 false))
         (j11 false))
        (j11 false))
       (j11 false))
      (j11 false))
     (j11 false))
    (j11 false))
   (j11 false))
  (j11 false)
def BV (_ : Nat) (p0 : List Ap) : Option ((List Ap)) :=
 (D7 ((([] : List Ap)).length + p0.length ≤ Er)).bind fun _ =>
 some ((([] : List Ap)) ++ p0)
def EX (N : Nat) (p0 : Ah) (p1 : List Ap) : Option (Ae × Int × Int) :=
 (EN N p0 p1).bind fun v1 =>
 AS ((v1.2.2 != 0))
  (some ((Ae.mk (([] : List Int)) (([] : List Int)) (([] : List Int))), v1.2.1, v1.2.2))
  ((A5 v1.1 v1.2.1).bind fun v3 =>
  some (v3, v1.2.1, 0))
def B6 (N : Nat) (p0 : List (List Bool)) (p1 : Int) (p2 : Int) (j2 : Unit → Option Bool) : Nat → Int → Option Bool
 | 0, _ => none
 | n2 + 1, v2 =>
  AS ((decide (v2 < p1)))
   ((A5 p0 v2).bind fun v5 =>
   AS (((v5.length : Int) != p2))
    (some false)
    (B6 N p0 p1 p2 j2 n2 (IntKind.wrap .i64 (v2 + 1))))
   (j2 ())
def CX (N : Nat) (p0 : List (List Bool)) (p1 : Int) (p2 : Int) : Option Bool :=
 AS (((p0.length : Int) != p1))
  (some false)
  (B6 N p0 p1 p2 (fun (_ : Unit) =>
   some true) N 0)
def BG (N : Nat) (p1 : AH) (j22 : Unit → Option Int) : Nat → Int → Option Int
 | 0, _ => none
 | n22 + 1, v22 =>
  AS ((decide (v22 < (p1.fRewrite.length : Int))))
   ((A5 p1.fRewrite v22).bind fun v25 =>
   (A5 v25 v22).bind fun v26 =>
   AS ((!v26))
    (some 1)
    (BG N p1 j22 n22 (IntKind.wrap .i64 (v22 + 1))))
   (j22 ())
def DL (N : Nat) (p0 : Ah) (p1 : AH) : Option Int :=
 Bb (fun (v1 : Bool) =>
  AS v1
   (some 1)
   (Bb (fun (v7 : Bool) =>
    AS v7
     (some 4)
     ((A5 p0.fVersions p1.fFrom).bind fun v12 =>
     (A5 p0.fVersions p1.fTo).bind fun v13 =>
     (CX N p1.fOK v12 v13).bind fun v14 =>
     AS ((!v14))
      (some 6)
      (AS ((p1.fKind != 4))
       (AS (((p1.fRewrite.length : Int) != 0))
        (some 6)
        (some 0))
       ((A5 p0.fVersions p1.fFrom).bind fun v18 =>
       (A5 p0.fVersions p1.fFrom).bind fun v19 =>
       (CX N p1.fRewrite v18 v19).bind fun v20 =>
       AS ((!v20))
        (some 6)
        (BG N p1 (fun (_ : Unit) =>
         some 0) N 0)))))
   fun j7 =>
   AS ((decide (p1.fFrom < 0)))
    (j7 true)
    (AS ((decide ((p0.fVersions.length : Int) ≤ p1.fFrom)))
     (j7 true)
     (AS ((decide (p1.fTo < 0)))
      (j7 true)
      (j7 (decide ((p0.fVersions.length : Int) ≤ p1.fTo)))))))
 fun j1 =>
 AS ((decide (p1.fKind < 1)))
  (j1 true)
  (AS ((decide (4 < p1.fKind)))
   (j1 true)
   (AS p1.fAware
    ((A4 N p1).bind fun v5 =>
    j1 v5)
    (j1 false)))
def Ba (N : Nat) (p0 : Ah) (j7 : Unit → Option Int) : Nat → Int → Option Int
 | 0, _ => none
 | n7 + 1, v7 =>
  AS ((decide (v7 < (p0.fVersions.length : Int))))
   ((A5 p0.fVersions v7).bind fun v10 =>
   Bb (fun (v11 : Bool) =>
    AS v11
     (some 7)
     (Ba N p0 j7 n7 (IntKind.wrap .i64 (v7 + 1))))
   fun j11 =>
   AS ((decide (v10 < 1)))
    (j11 true)
    (AS ((decide (6 < v10)))
     (j11 true)
     ((A5 p0.fNow v7).bind fun v14 =>
     AS ((decide (v14 < 0)))
      (j11 true)
      ((A5 p0.fNow v7).bind fun v16 =>
      AS ((decide (v10 ≤ v16)))
       (j11 true)
       ((A5 p0.fTarget v7).bind fun v18 =>
       AS ((decide (v18 < 0)))
        (j11 true)
        ((A5 p0.fTarget v7).bind fun v20 =>
        j11 (decide (v10 ≤ v20))))))))
   (j7 ())
def A6 (N : Nat) (p0 : Ah) (j22 : Unit → Option Int) : Nat → Int → Option Int
 | 0, _ => none
 | n22 + 1, v22 =>
  AS ((decide (v22 < (p0.fTables.length : Int))))
   ((A5 p0.fTables v22).bind fun v25 =>
   (DL N p0 v25).bind fun v26 =>
   AS ((v26 != 0))
    (some v26)
    (A6 N p0 j22 n22 (IntKind.wrap .i64 (v22 + 1))))
   (j22 ())
def B7 (N : Nat) (p0 : Ah) : Option Int :=
 Bb (fun (v1 : Bool) =>
  AS v1
   (some 3)
   (Bb (fun (v4 : Bool) =>
    AS v4
     (some 6)
     (Ba N p0 (fun (_ : Unit) =>
      A6 N p0 (fun (_ : Unit) =>
       some 0) N 0) N 0))
   fun j4 =>
   AS (((p0.fNow.length : Int) != (p0.fVersions.length : Int)))
    (j4 true)
    (j4 ((p0.fTarget.length : Int) != (p0.fVersions.length : Int)))))
 fun j1 =>
 AS ((decide (6 < (p0.fVersions.length : Int))))
  (j1 true)
  (j1 (decide (12 < (p0.fTables.length : Int))))
def BT (N : Nat) (p0 : Ah) (j3 : ((List Int) × (List Int)) → Option (Ae × Int)) : Nat → ((List Int) × (List Int) × Int) → Option (Ae × Int)
 | 0, _ => none
 | n3 + 1, v3 =>
  AS ((decide (v3.2.2 < (p0.fVersions.length : Int))))
   ((A5 p0.fNow v3.2.2).bind fun v6 =>
   (D7 (v3.1.length + (([v6] : List Int)).length ≤ Er)).bind fun _ =>
   (D7 (v3.2.1.length + (([(-1)] : List Int)).length ≤ Er)).bind fun _ =>
   BT N p0 j3 n3 (v3.1 ++ (([v6] : List Int)), v3.2.1 ++ (([(-1)] : List Int)), (IntKind.wrap .i64 (v3.2.2 + 1))))
   (j3 (v3.1, v3.2.1))
def A8 (N : Nat) (p0 : Ah) (j9 : ((List Int)) → Option (Ae × Int)) : Nat → ((List Int) × Int) → Option (Ae × Int)
 | 0, _ => none
 | n9 + 1, v9 =>
  AS ((decide (v9.2 < (p0.fTables.length : Int))))
   (Bb (fun (v12 : Int) =>
    (D7 (v9.1.length + (([v12] : List Int)).length ≤ Er)).bind fun _ =>
    A8 N p0 j9 n9 (v9.1 ++ (([v12] : List Int)), (IntKind.wrap .i64 (v9.2 + 1))))
   fun j12 =>
   (A5 p0.fTables v9.2).bind fun v13 =>
   (A4 N v13).bind fun v14 =>
   AS v14
    ((A5 p0.fTables v9.2).bind fun v16 =>
    (A5 p0.fNow v16.fFrom).bind fun v17 =>
    (D7 (0 ≤ v17)).bind fun _ =>
    j12 (Co .u8 1 v17))
    (j12 0))
   (j9 v9.1)
def DM (N : Nat) (p0 : Ah) : Option (Ae × Int) :=
 (B7 N p0).bind fun v1 =>
 AS ((v1 != 0))
  (some ((Ae.mk (([] : List Int)) (([] : List Int)) (([] : List Int))), v1))
  (BT N p0 (fun (v4 : (List Int) × (List Int)) =>
   A8 N p0 (fun (v10 : (List Int)) =>
    some ((Ae.mk v4.1 v4.2 v10), 0)) N (([] : List Int), 0)) N (([] : List Int), ([] : List Int), 0))
def Cq (_ : Nat) (p0 : Ae) (p1 : Int) : Option Int :=
 (A5 p0.fBase p1).bind fun v1 =>
 (D7 (0 ≤ v1)).bind fun _ =>
 Bb (fun (v3 : Int) =>
  some v3)
 fun j3 =>
 (A5 p0.fNext p1).bind fun v4 =>
 AS ((decide (0 ≤ v4)))
  ((A5 p0.fNext p1).bind fun v6 =>
  (D7 (0 ≤ v6)).bind fun _ =>
  j3 (LU .u8 ((Co .u8 1 v1)) ((Co .u8 1 v6))))
  (j3 (Co .u8 1 v1))
def BU (N : Nat) (p0 : Ah) (p1 : Ae) (j7 : Unit → Option Int) : Nat → Int → Option Int
 | 0, _ => none
 | n7 + 1, v7 =>
  AS ((decide (v7 < (p0.fVersions.length : Int))))
   (Bb (fun (v10 : Bool) =>
    AS v10
     (some 7)
     ((A5 p1.fBase v7).bind fun v21 =>
     (A5 p1.fNext v7).bind fun v22 =>
     AS ((v21 == v22))
      (some 1)
      (BU N p0 p1 j7 n7 (IntKind.wrap .i64 (v7 + 1)))))
   fun j10 =>
   (A5 p1.fBase v7).bind fun v11 =>
   AS ((decide (v11 < 0)))
    (j10 true)
    ((A5 p1.fBase v7).bind fun v13 =>
    (A5 p0.fVersions v7).bind fun v14 =>
    AS ((decide (v14 ≤ v13)))
     (j10 true)
     ((A5 p1.fNext v7).bind fun v16 =>
     AS ((decide (v16 < (-1))))
      (j10 true)
      ((A5 p1.fNext v7).bind fun v18 =>
      (A5 p0.fVersions v7).bind fun v19 =>
      j10 (decide (v19 ≤ v18))))))
   (j7 ())
def BH (N : Nat) (p0 : Ah) (p1 : Ae) (j24 : Unit → Option Int) : Nat → Int → Option Int
 | 0, _ => none
 | n24 + 1, v24 =>
  AS ((decide (v24 < (p0.fTables.length : Int))))
   ((A5 p0.fTables v24).bind fun v27 =>
   (A5 p0.fVersions v27.fFrom).bind fun v28 =>
   (D7 (0 ≤ v28)).bind fun _ =>
   Bb (fun (v30 : Bool) =>
    AS v30
     (some 1)
     (BH N p0 p1 j24 n24 (IntKind.wrap .i64 (v24 + 1))))
   fun j30 =>
   (A4 N v27).bind fun v31 =>
   AS ((!v31))
    ((A5 p1.fHeld v24).bind fun v33 =>
    AS ((v33 != 0))
     (j30 true)
     ((A4 N v27).bind fun v35 =>
     AS v35
      ((A5 p1.fHeld v24).bind fun v37 =>
      AS (((CK .u8 v37 ((IntKind.wrap .u8 ((Co .u8 1 v28) - 1)))) != 0))
       (j30 true)
       ((Cq N p1 v27.fFrom).bind fun v39 =>
       (A5 p1.fHeld v24).bind fun v40 =>
       j30 ((CK .u8 v39 v40) != 0)))
      (j30 false)))
    ((A4 N v27).bind fun v41 =>
    AS v41
     ((A5 p1.fHeld v24).bind fun v43 =>
     AS (((CK .u8 v43 ((IntKind.wrap .u8 ((Co .u8 1 v28) - 1)))) != 0))
      (j30 true)
      ((Cq N p1 v27.fFrom).bind fun v45 =>
      (A5 p1.fHeld v24).bind fun v46 =>
      j30 ((CK .u8 v45 v46) != 0)))
     (j30 false)))
   (j24 ())
def Dc (N : Nat) (p0 : Ah) (p1 : Ae) : Option Int :=
 (B7 N p0).bind fun v1 =>
 AS ((v1 != 0))
  (some v1)
  (Bb (fun (v3 : Bool) =>
   AS v3
    (some 6)
    (BU N p0 p1 (fun (_ : Unit) =>
     BH N p0 p1 (fun (_ : Unit) =>
      some 0) N 0) N 0))
  fun j3 =>
  AS (((p1.fBase.length : Int) != (p0.fVersions.length : Int)))
   (j3 true)
   (AS (((p1.fNext.length : Int) != (p0.fVersions.length : Int)))
    (j3 true)
    (j3 ((p1.fHeld.length : Int) != (p0.fTables.length : Int)))))
def DO (_ : Nat) (p0 : Ap) : Option Bool :=
 Bb (fun (v1 : Bool) =>
  some v1)
 fun j1 =>
 AS ((decide (1 ≤ p0.fKind)))
  (AS ((decide (p0.fKind ≤ 4)))
   (AS ((decide (0 ≤ p0.fIndex)))
    (AS ((decide (0 ≤ p0.fVersion)))
     (AS ((p0.fKind == 1))
      (j1 true)
      (j1 (p0.fVersion == 0)))
     (j1 false))
    (j1 false))
   (j1 false))
  (j1 false)
def DA (_ : Nat) (p0 : Int) (p1 : Int) : Option Bool :=
 (D7 (0 ≤ p1)).bind fun _ =>
 some (((Fm .u8 ((D0 .u8 p0 p1)) 1) == 1))
def BF (N : Nat) (p0 : Ah) (p2 : Ap) (j12 : ((List Int)) → Option (Ae × Bool)) : Nat → ((List Int) × Int) → Option (Ae × Bool)
 | 0, _ => none
 | n12 + 1, v12 =>
  AS ((decide (v12.2 < (p0.fTables.length : Int))))
   (Bb (fun (v15 : (List Int)) =>
    BF N p0 p2 j12 n12 (v15, (IntKind.wrap .i64 (v12.2 + 1))))
   fun j15 =>
   Bb (fun (v16 : Bool) =>
    AS v16
     ((A5 v12.1 v12.2).bind fun v22 =>
     (D7 (0 ≤ p2.fVersion)).bind fun _ =>
     (A5 v12.1 v12.2).bind fun _ =>
     j15 (v12.1.set ((v12.2).toNat) ((LU .u8 v22 ((Co .u8 1 p2.fVersion))))))
     (j15 v12.1))
   fun j16 =>
   (A5 p0.fTables v12.2).bind fun v17 =>
   AS ((v17.fFrom == p2.fIndex))
    ((A5 p0.fTables v12.2).bind fun v19 =>
    (A4 N v19).bind fun v20 =>
    j16 v20)
    (j16 false))
   (j12 v12.1)
def Br (N : Nat) (p0 : Ah) (p1 : Ae) (p2 : Ap) (v32 : AH) (v35 : Int) (j38 : Unit → Option (Ae × Bool)) : Nat → Int → Option (Ae × Bool)
 | 0, _ => none
 | n38 + 1, v38 =>
  (A5 p0.fVersions v32.fFrom).bind fun v40 =>
  AS ((decide (v38 < v40)))
   (Bb (fun (v42 : Bool) =>
    Bb (fun (v47 : Bool) =>
     AS v47
      (some ((Ae.mk (([] : List Int)) (([] : List Int)) (([] : List Int))), false))
      (Br N p0 p1 p2 v32 v35 j38 n38 (IntKind.wrap .i64 (v38 + 1))))
    fun j47 =>
    AS v42
     (AS ((v32.fKind == 4))
      ((A5 v32.fRewrite v38).bind fun v50 =>
      (A5 p1.fBase v32.fFrom).bind fun v51 =>
      (A5 v50 v51).bind fun v52 =>
      j47 (!v52))
      (j47 false))
     (j47 false))
   fun j42 =>
   (A5 p1.fHeld p2.fIndex).bind fun v43 =>
   (DA N v43 v38).bind fun v44 =>
   AS v44
    ((DA N v35 v38).bind fun v46 =>
    j42 (!v46))
    (j42 false))
   (j38 ())
def De (N : Nat) (p0 : Ah) (p1 : Ae) (p2 : Ap) : Option (Ae × Bool) :=
 (D7 ((([] : List Int)).length + p1.fBase.length ≤ Er)).bind fun _ =>
 (D7 ((([] : List Int)).length + p1.fNext.length ≤ Er)).bind fun _ =>
 (D7 ((([] : List Int)).length + p1.fHeld.length ≤ Er)).bind fun _ =>
 Bb (fun (v4 : (List Int) × (List Int) × (List Int)) =>
  some ((Ae.mk v4.1 v4.2.1 v4.2.2), true))
 fun j4 =>
 AS ((p2.fKind == 1))
  (Bb (fun (v6 : Bool) =>
   AS v6
    (some ((Ae.mk (([] : List Int)) (([] : List Int)) (([] : List Int))), false))
    ((A5 ((([] : List Int)) ++ p1.fNext) p2.fIndex).bind fun _ =>
    BF N p0 p2 (fun (v13 : (List Int)) =>
     j4 ((([] : List Int)) ++ p1.fBase, ((([] : List Int)) ++ p1.fNext).set ((p2.fIndex).toNat) p2.fVersion, v13)) N ((([] : List Int)) ++ p1.fHeld, 0)))
  fun j6 =>
  (A5 p1.fNext p2.fIndex).bind fun v7 =>
  AS ((decide (0 ≤ v7)))
   (j6 true)
   ((A5 p1.fBase p2.fIndex).bind fun v9 =>
   j6 (p2.fVersion == v9)))
  (AS ((p2.fKind == 2))
   ((A5 p1.fNext p2.fIndex).bind fun v26 =>
   AS ((decide (v26 < 0)))
    (some ((Ae.mk (([] : List Int)) (([] : List Int)) (([] : List Int))), false))
    ((A5 p1.fNext p2.fIndex).bind fun v28 =>
    (A5 ((([] : List Int)) ++ p1.fBase) p2.fIndex).bind fun _ =>
    (A5 ((([] : List Int)) ++ p1.fNext) p2.fIndex).bind fun _ =>
    j4 (((([] : List Int)) ++ p1.fBase).set ((p2.fIndex).toNat) v28, ((([] : List Int)) ++ p1.fNext).set ((p2.fIndex).toNat) ((-1)), (([] : List Int)) ++ p1.fHeld)))
   (AS ((p2.fKind == 3))
    ((A5 p0.fTables p2.fIndex).bind fun v32 =>
    (A4 N v32).bind fun v33 =>
    AS ((!v33))
     (some ((Ae.mk (([] : List Int)) (([] : List Int)) (([] : List Int))), false))
     ((Cq N p1 v32.fFrom).bind fun v35 =>
     (A5 p1.fHeld p2.fIndex).bind fun v36 =>
     AS ((v36 == v35))
      (some ((Ae.mk (([] : List Int)) (([] : List Int)) (([] : List Int))), false))
      (Br N p0 p1 p2 v32 v35 (fun (_ : Unit) =>
       (A5 ((([] : List Int)) ++ p1.fHeld) p2.fIndex).bind fun _ =>
       j4 ((([] : List Int)) ++ p1.fBase, (([] : List Int)) ++ p1.fNext, ((([] : List Int)) ++ p1.fHeld).set ((p2.fIndex).toNat) v35)) N 0)))
    ((A5 p1.fNext p2.fIndex).bind fun v55 =>
    AS ((decide (v55 < 0)))
     (some ((Ae.mk (([] : List Int)) (([] : List Int)) (([] : List Int))), false))
     ((A5 ((([] : List Int)) ++ p1.fNext) p2.fIndex).bind fun _ =>
     j4 ((([] : List Int)) ++ p1.fBase, ((([] : List Int)) ++ p1.fNext).set ((p2.fIndex).toNat) ((-1)), (([] : List Int)) ++ p1.fHeld)))))
def DN (N : Nat) (p0 : Ah) (p1 : Ae) (p2 : Ap) : Option (Ae × Int) :=
 (Dc N p0 p1).bind fun v1 =>
 AS ((v1 != 0))
  (some ((Ae.mk (([] : List Int)) (([] : List Int)) (([] : List Int))), v1))
  ((DO N p2).bind fun v3 =>
  AS ((!v3))
   (some ((Ae.mk (([] : List Int)) (([] : List Int)) (([] : List Int))), 1))
   (Bb (fun (v5 : Bool) =>
    AS v5
     (some ((Ae.mk (([] : List Int)) (([] : List Int)) (([] : List Int))), 4))
     (Bb (fun (v11 : Bool) =>
      AS v11
       (some ((Ae.mk (([] : List Int)) (([] : List Int)) (([] : List Int))), 4))
       ((De N p0 p1 p2).bind fun v15 =>
       AS ((!v15.2))
        (some ((Ae.mk (([] : List Int)) (([] : List Int)) (([] : List Int))), 11))
        (some (v15.1, 0))))
     fun j11 =>
     AS ((p2.fKind == 1))
      ((A5 p0.fVersions p2.fIndex).bind fun v13 =>
      j11 (decide (v13 ≤ p2.fVersion)))
      (j11 false)))
   fun j5 =>
   AS ((p2.fKind == 3))
    (AS ((decide ((p0.fTables.length : Int) ≤ p2.fIndex)))
     (j5 true)
     (AS ((p2.fKind != 3))
      (j5 (decide ((p0.fVersions.length : Int) ≤ p2.fIndex)))
      (j5 false)))
    (AS ((p2.fKind != 3))
     (j5 (decide ((p0.fVersions.length : Int) ≤ p2.fIndex)))
     (j5 false))))
def CY (N : Nat) (p0 : Ah) (p2 : List Ap) (j3 : ((List Ae)) → Option ((List Ae) × Int × Int)) : Nat → ((List Ae) × Int) → Option ((List Ae) × Int × Int)
 | 0, _ => none
 | n3 + 1, v3 =>
  AS ((decide (v3.2 < (p2.length : Int))))
   ((A5 v3.1 v3.2).bind fun v6 =>
   (A5 p2 v3.2).bind fun v7 =>
   (DN N p0 v6 v7).bind fun v8 =>
   AS ((v8.2 != 0))
    (some (([] : List Ae), v3.2, v8.2))
    ((D7 (v3.1.length + (([v8.1] : List Ae)).length ≤ Er)).bind fun _ =>
    CY N p0 p2 j3 n3 (v3.1 ++ (([v8.1] : List Ae)), (IntKind.wrap .i64 (v3.2 + 1)))))
   (j3 v3.1)
def D2 (N : Nat) (p0 : Ah) (p1 : Ae) (p2 : List Ap) : Option ((List Ae) × Int × Int) :=
 (Dc N p0 p1).bind fun v1 =>
 AS ((v1 != 0))
  (some (([] : List Ae), 0, v1))
  (CY N p0 p2 (fun (v4 : (List Ae)) =>
   some (v4, (p2.length : Int), 0)) N (([p1] : List Ae), 0))
def Dr (N : Nat) (p0 : Ah) (p1 : List Ap) : Option (Ae × Int × Int) :=
 (DM N p0).bind fun v1 =>
 AS ((v1.2 != 0))
  (some ((Ae.mk (([] : List Int)) (([] : List Int)) (([] : List Int))), 0, v1.2))
  ((D2 N p0 v1.1 p1).bind fun v3 =>
  AS ((v3.2.2 != 0))
   (some ((Ae.mk (([] : List Int)) (([] : List Int)) (([] : List Int))), v3.2.1, v3.2.2))
   ((A5 v3.1 v3.2.1).bind fun v5 =>
   some (v5, v3.2.1, 0)))
def CP (N : Nat) (p0 : List Int) (p1 : List Int) (j1 : Unit → Option Int) : Nat → Int → Option Int
 | 0, _ => none
 | n1 + 1, v1 =>
  Bb (fun (v3 : Bool) =>
   AS v3
    ((A5 p0 v1).bind fun v6 =>
    (A5 p1 v1).bind fun v7 =>
    AS ((decide (v6 < v7)))
     (some ((-1)))
     ((A5 p0 v1).bind fun v9 =>
     (A5 p1 v1).bind fun v10 =>
     AS ((decide (v10 < v9)))
      (some 1)
      (CP N p0 p1 j1 n1 (IntKind.wrap .i64 (v1 + 1)))))
    (j1 ()))
  fun j3 =>
  AS ((decide (v1 < (p0.length : Int))))
   (j3 (decide (v1 < (p1.length : Int))))
   (j3 false)
def CS (N : Nat) (p0 : List Int) (p1 : List Int) : Option Int :=
 CP N p0 p1 (fun (_ : Unit) =>
  AS ((decide ((p0.length : Int) < (p1.length : Int))))
   (some ((-1)))
   (AS ((decide ((p1.length : Int) < (p0.length : Int))))
    (some 1)
    (some 0))) N 0
def Cm (N : Nat) (p0 : List Int) (j1 : ((List Int)) → Option ((List Int))) : Nat → ((List Int) × Int) → Option ((List Int))
 | 0, _ => none
 | n1 + 1, v1 =>
  AS ((decide (v1.2 < (p0.length : Int))))
   ((A5 p0 v1.2).bind fun v4 =>
   (D7 (v1.1.length + (([(IntKind.wrap .i64 v4)] : List Int)).length ≤ Er)).bind fun _ =>
   Cm N p0 j1 n1 (v1.1 ++ (([(IntKind.wrap .i64 v4)] : List Int)), (IntKind.wrap .i64 (v1.2 + 1))))
   (j1 v1.1)
def CI (N : Nat) (p0 : List Int) : Option ((List Int)) :=
 Cm N p0 (fun (v2 : (List Int)) =>
  some v2) N (([] : List Int), 0)
def Dk (N : Nat) (p0 : Ae) (p1 : Ae) : Option Int :=
 (CS N p0.fBase p1.fBase).bind fun v1 =>
 AS ((v1 != 0))
  (some v1)
  ((CS N p0.fNext p1.fNext).bind fun v3 =>
  AS ((v3 != 0))
   (some v3)
   ((CI N p0.fHeld).bind fun v5 =>
   (CI N p1.fHeld).bind fun v6 =>
   (CS N v5 v6).bind fun v7 =>
   some v7))
def Df (N : Nat) (p0 : Ae) (p1 : Ae) : Option Bool :=
 (Dk N p0 p1).bind fun v1 =>
 some ((v1 == 0))
def C1 (N : Nat) (p0 : Ch) (p1 : List Ap) : Option Bool :=
 (Ei N p0).bind fun v1 =>
 Bb (fun (v2 : Bool) =>
  AS v2
   ((DK N).bind fun v7 =>
   some v7)
   ((BV N p1).bind fun v8 =>
   (EX N v1.1 v8).bind fun v9 =>
   (Dr N v1.1 p1).bind fun v10 =>
   Bb (fun (v11 : Bool) =>
    some v11)
   fun j11 =>
   AS ((v9.2.2 == v10.2.2))
    (AS ((v9.2.1 == v10.2.1))
     ((Df N v9.1 v10.1).bind fun v14 =>
     j11 v14)
     (j11 false))
    (j11 false)))
 fun j2 =>
 (DK N).bind fun v3 =>
 AS ((!v3))
  (j2 true)
  (AS ((!v1.2))
   (j2 true)
   (j2 (decide (12 < (p1.length : Int)))))
def LT {α : Type} (w : α → Prop) (xs : List α) : Prop := ∀ x, x ∈ xs → w x
def RC (n : Int) : Prop := (Lit.int .i64 n).wf = true
def Kc (n : Int) : Prop := (Lit.int .u8 n).wf = true
def Sm (n : Int) : Prop := (Lit.int .u16 n).wf = true
def GC (x : G1) : Prop := Kc x.fKind ∧ Kc x.fFrom ∧ Kc x.fTo ∧ (fun _ => True) x.fAware ∧ Sm x.fBad ∧ Sm x.fLost ∧ True
def E5 (x : Ch) : Prop := (LT Kc) x.fVersions ∧ (LT Kc) x.fNow ∧ (LT Kc) x.fTarget ∧ (LT GC) x.fLinks ∧ True
def J6 (x : Ap) : Prop := RC x.fKind ∧ RC x.fIndex ∧ RC x.fVersion ∧ True
end Go.Lift

