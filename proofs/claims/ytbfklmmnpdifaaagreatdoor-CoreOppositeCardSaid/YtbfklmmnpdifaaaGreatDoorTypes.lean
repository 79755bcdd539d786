/- Lemmas for CoreOppositeCardSaid, which YtbfklmmnpdifaaaGreatDoorFinC5 proves. -/
import Derived.Test.YtbfklmmnpdifaaaGreatDoorLift16
import Derived.ProofKit
import Derived.Shelf.SlSortCmp.NoneTotal
import Derived.MakeChecks
import Derived.Shelf.Strconv.Itoa3
import Derived.Shelf.Spec.TrailingZeros
import Derived.Shelf.SlLaysF
open Array renaming getD_eq_getD_getElem? → zE8, getElem?_append → zJ0, getElem?_eq_none → zD5, getElem?_eq_some_iff → zK8, getElem?_modify → zJ7, length_toList → zH3, replicate → zJ3
open Bool renaming and_eq_true → zA5, and_eq_true_iff → zH9, not_eq_true' → zI2, or_eq_true → zG0
open Int renaming eq_ofNat_of_zero_le → zA8
open List renaming all_cons → zG7, all_eq_true → zA2, append_assoc → zD7, drop_eq_nil_of_le → zD9, eq_nil_of_length_eq_zero → zD2, getD_cons_zero → zK7, getElem?_append_left → zC8, getElem?_append_right → zB9, getElem?_drop → zF4, getElem?_eq_getElem → zC0, getElem?_eq_none → zD1, getElem?_map → zA1, getElem?_take_of_lt → zC9, getElem_mem → zE9, length → zF8, length_cons → zC5, length_map → zB0, length_set → zG6, length_singleton → zB8, mapM_cons → zK5, map_cons → zC7, map_eq_nil_iff → zH6, map_nil → zI7, map_take → zL2, map_toArray → zG1, mem_cons → zB6, mem_cons_of_mem → zG8, mem_iff_getElem? → zB3, mem_map → zB5, mem_range → zD8, nodup_cons → zG2, pairwise_cons → zI9, pairwise_iff_getElem → zH5, pairwise_map → zL1, range → zB4, range' → zF9, replicate → zA6
open Nat renaming add_assoc → zF6, add_mul → zE4, add_sub_cancel_left → zH0, add_zero → zF7, ble → zH7, ble_eq_true_of_le → zI4, blt_eq → zI1, eq_zero_or_pos → zH4, le_of_ble_eq_true → zD0, le_refl → zB1, le_trans → zG3, lt_irrefl → zI6, lt_or_ge → zD3, min → zF1, mul_le_mul_right → zA4, succ_mul → zC1, zero_add → zA3, zero_le → zA9
open Option renaming getD_some → zC6, map_some → zE1
namespace Go.Lift
open Go.RowKit
variable {P : Program} {X : IX} {ops : Array Oper}
section run
variable {dr : Bool} {Q : St → Prop} {r i : Nat} {st : St} {log : List (Nat × CO)} {o : Oper} {gs : List (Operand × D)}
theorem M7 {xt yt : TypeId} {x : Operand} {s e : Nat} {rows : List (List T)} (hat : At st.env ops i X.n (.binOp .eql xt x (.const (.slice none 0 0)) yt) s gs)
  (hx : opd st.env x = some (one (.sl rows))) (ht : sliceB P xt e = true)
  (next : Bc P X ops dr Q r (i + 1) (CO.upd ⟨gs ++ [(x, one (.sl rows))], [], some s, some (.e (.one (.nilq (rows = [])))), [], []⟩ st) ((i, ⟨gs ++ [(x, one (.sl rows))], [], some s, some (.e (.one (.nilq (rows = [])))), [], []⟩) :: log)) : Bc P X ops dr Q (r + 1) i st log := by
 obtain ⟨o, ho, hop, hd, hn, hg, hgp⟩ := hat.out
 refine Bc.step next ⟨Am.2 ⟨hgp, hx, trivial⟩, trivial, trivial⟩ (LR.value ho hg rfl hd.symm (DP hd hn) ?_)
 intro G st a w hs hpre
 obtain ⟨hx, _⟩ := (Am.1 hpre.r).2
 have hX : DU w G.S (a.eval x) (.sl rows) := hs.opd hx
 obtain ⟨av, l, c, hv, hq⟩ : ∃ av l c, a.eval x = .slice av l c ∧ (av.isNone = true → rows = []) := by
  generalize a.eval x = v at hX
  cases hX with
  | nil av cap => exact ⟨av, 0, cap, rfl, fun _ => rfl⟩
  | sl β off cap e arr el fz rows h1 h2 h3 h4 h5 h6 => exact ⟨_, _, _, rfl, fun h => by cases h⟩
 have hu : P.underlying xt = some (.slice e) := by
  unfold sliceB at ht
  split at ht
  ·rename_i e' he; rw [he]; simp at ht; rw [ht]
  ·cases ht
 refine ⟨.bool av.isNone, w, G, ?_, hs, ?_⟩
 ·simp only [execOp, hop, hv]
  refine Ai (a := .bool av.isNone) (w1 := w) (Ai (a := ()) (w1 := w) (by simp [eqGuard]) ?_) rfl
  have h1 : (Op.equalIn (9999 + 1) xt (.slice av l c) (.slice none 0 0)).run P w = .ok av.isNone w := by
   generalize 9999 = dd
   cases av <;> (unfold Op.equalIn; exact Ai (AN hu w) rfl)
  simp only [binOp, Act.eval]
  refine Ai (a := av.isNone) (w1 := w) ?_ rfl
  exact h1
 ·rintro d ⟨⟩
  exact ⟨⟨_, rfl, hq⟩, fun b hb => by cases hb⟩
end run
theorem Nv {c : Operand} {x y : Code} {Q : Exit → St → Prop} {st : St} {p : Prop} (hc : opd st.env c = some (.e (.one (.nilq p)))) (ht : p → W P X x Q st) (hf : W P X y Q st) : W P X (.cond c x y) Q st := by
 intro a w hs
 obtain ⟨b, hcv, hp⟩ : ∃ b, a.eval c = .bool b ∧ (b = true → p) := by
  obtain ⟨G, hs⟩ := hs
  exact hs.opd hc
 cases b with
 | true => exact wp_cond_true hcv (ht (hp rfl) a w hs)
 | false => exact wp_cond_false hcv (hf a w hs)
end Go.Lift
namespace Go.Lift
open List renaming mem_of_getElem? → lM
open Go.RowKit
variable {P : Program} {X : IX} {ops : Array Oper}
def Rt : Bool × List T → D
 | (true, ts) => .e (.agg (ts.map .pure))
 | (false, ts) => .e (.one (.pure (ts.headD .nil0)))
def ZC : Bool × List T → Bool
 | (true, _) => true
 | (false, ts) => match ts with | [_] => true | _ => false
theorem ZF {w : World} {S : Nat → Prop} {G : Gh} {v : Value} {x : Bool × List T} (h : HI P w G v (Rt x)) (hS : ∀ β, G.S β → S β) (hx : ZC x = true) : ZZ w S v x := by
 obtain ⟨b, ts⟩ := x
 cases b with
 | false =>
  match ts, hx with
  | [t], _ => exact ⟨t, rfl, DU.mono (show DU w G.S v t from h) (fun _ _ => rfl) hS⟩
 | true =>
  obtain ⟨vs, e, hs, h⟩ := h
  refine ⟨vs, e, by simpa using hs, fun j t hj => ?_⟩
  have : ER P w G (Av vs j) (.pure t) := h j (.pure t) (by simp [hj])
  exact DU.mono this (fun _ _ => rfl) hS
theorem V9 {w : World} {S : Nat → Prop} {v : Value} {x : Bool × List T} (h : ZZ w S v x) : HI P w (G0 S) v (Rt x) := by
 obtain ⟨b, ts⟩ := x
 cases b with
 | false =>
  obtain ⟨t, rfl, h⟩ := h
  exact h
 | true =>
  obtain ⟨vs, e, hs, h⟩ := h
  refine ⟨vs, e, by simpa using hs, fun j c hj => ?_⟩
  rw [zA1] at hj
  cases hx : ts[j]? with
  | none => rw [hx] at hj; cases hj
  | some t => rw [hx] at hj; cases hj; exact h j t hx
noncomputable def Hn {α ρ : Type} (ea : α → List (Bool × List T)) (er : ρ → T) (q : α → Option ρ) : List (Bool × List T) → Option T := fun ar =>
 open Classical in if h : ∃ x r, ea x = ar ∧ q x = some r then some (er (Classical.choose (Classical.choose_spec h))) else none
theorem HT {α ρ : Type} {ea : α → List (Bool × List T)} {er : ρ → T} {q : α → Option ρ} {ar : List (Bool × List T)} {t : T} (h : Hn ea er q ar = some t) : ∃ x r, ar = ea x ∧ q x = some r ∧ t = er r := by
 unfold Hn at h
 split at h
 ·rename_i hx
  cases h
  have := Classical.choose_spec (Classical.choose_spec hx)
  exact ⟨_, _, this.1.symm, this.2, rfl⟩
 ·cases h
theorem J3 {α ρ : Type} {ea : α → List (Bool × List T)} {er : ρ → T} {q : α → Option ρ} (inj : ∀ x y, ea x = ea y → x = y) {x : α} {r : ρ} (h : q x = some r) : Hn ea er q (ea x) = some (er r) := by
 have hx : ∃ y s, ea y = ea x ∧ q y = some s := ⟨x, r, rfl, h⟩
 unfold Hn
 rw [dif_pos hx]
 have h1 := Classical.choose_spec (Classical.choose_spec hx)
 have h2 := inj _ _ h1.1
 have h3 : q (Classical.choose hx) = some r := by rw [h2]; exact h
 exact congrArg (fun z => some (er z)) (Option.some.inj (h3.symm.trans h1.2)).symm
structure VI {α β : Type} (f : α → β) : Prop where
 inj : ∀ x y, f x = f y → x = y
def Lc {α : Type} (b : Bool) (e : α → List T) (x : α) : List (Bool × List T) := [(b, e x)]
def aH {α β : Type} (b : Bool) (e : α → List T) (b' : Bool) (e' : β → List T) (x : α × β) : List (Bool × List T) := [(b, e x.1), (b', e' x.2)]
theorem KT {α : Type} (b : Bool) (e : α → List T) (h : VI e) : ∀ x y, Lc b e x = Lc b e y → x = y := by
 intro x y hxy
 simp only [Lc, List.cons.injEq, Prod.mk.injEq, true_and, and_true] at hxy
 exact h.inj _ _ hxy
theorem Yi {α β : Type} (b : Bool) (e : α → List T) (b' : Bool) (e' : β → List T) (h : VI e) (h' : VI e') : ∀ x y, aH b e b' e' x = aH b e b' e' y → x = y := by
 intro x y hxy
 simp only [aH, List.cons.injEq, Prod.mk.injEq, true_and, and_true] at hxy
 exact Prod.ext (h.inj _ _ hxy.1) (h'.inj _ _ hxy.2)
theorem LZ {α β : Type} {f : α → β} (h : ∀ x y, f x = f y → x = y) : ∀ (xs ys : List α), xs.map f = ys.map f → xs = ys
 | [], [], _ => rfl
 | [], _ :: _, e => by cases e
 | _ :: _, [], e => by cases e
 | x :: xs, y :: ys, e => by
  simp only [zC7, List.cons.injEq] at e
  rw [h _ _ e.1, LZ h _ _ e.2]
theorem Ur {f : FuncId} {g : List (Bool × List T) → Option T} (hf : AA P f = true) (hclo : ∀ ar t, g ar = some t → Ap P f (ar.map Rt) [] (one t)) {w : World} {S : Nat → Prop} {v : Value} (h : HI P w (G0 S) v (.e (.one (.fnc f)))) : HI P w (G0 S) v (.e (.one (.clo g))) := by
 refine ⟨f, #[], h, ?_, ?_⟩
 ·unfold AA at hf
  split at hf
  ·rename_i fn h0
   simp only [zA5, zI2] at hf
   exact ⟨fn, h0, hf.2, hf.1⟩
  ·cases hf
 ·intro w' S' _ _ hlt hgk vs ar r0 hvs has hgr
  refine (hclo ar r0 hgr w' S' (vs ++ #[]) hlt hgk (by simp [hvs]) ?_).mono ?_
  ·intro j d hj
   rw [zA1] at hj
   cases hx0 : ar[j]? with
   | none => rw [hx0] at hj; cases hj
   | some y =>
    rw [hx0] at hj; cases hj
    rw [Array.append_empty]
    exact V9 (has j y hx0)
  ·rintro e w'' ⟨v, G', rfl, hbel, h1, h2, h3, _⟩
   exact ⟨v, G'.S, rfl, hbel, h1, h2, h3⟩
def bP (P : Program) : List D → List D → Prop
 | [], [] => True
 | a :: ar, b :: bs => (∀ (w : World) (S : Nat → Prop) (v : Value), HI P w (G0 S) v a → HI P w (G0 S) v b) ∧ bP P ar bs
 | _, _ => False
theorem bP.get : ∀ {ar bs : List D}, bP P ar bs → ar.length = bs.length ∧ ∀ (j : Nat) (b : D), bs[j]? = some b → ∃ a, ar[j]? = some a ∧ ∀ (w : World) (S : Nat → Prop) (v : Value), HI P w (G0 S) v a → HI P w (G0 S) v b
 | [], [], _ => ⟨rfl, fun j b h => by simp at h⟩
 | a :: ar, b :: bs, h => by
  obtain ⟨h1, h2⟩ := bP.get h.2
  refine ⟨by simp [h1], fun j c hj => ?_⟩
  cases j with
  | zero => simp at hj; subst hj; exact ⟨a, rfl, h.1⟩
  | succ j => obtain ⟨a', g1, g2⟩ := h2 j c (by simpa using hj); exact ⟨a', by simpa using g1, g2⟩
theorem Ap.weak {f : FuncId} {ds ds' : List D} {rv : List (Nat × List (List T))} {res : D} (h : Ap P f ds rv res) (hp : bP P ds' ds) : Ap P f ds' rv res := by
 intro w S vs hS hgk hlen hargs
 obtain ⟨h1, h2⟩ := hp.get
 refine h w S vs hS hgk (by rw [hlen, h1]) fun j d hj => ?_
 obtain ⟨a, g1, g2⟩ := h2 j d hj
 exact g2 w S _ (hargs j a g1)
section run
variable {dr : Bool} {Q : St → Prop} {r i : Nat} {st : St} {log : List (Nat × CO)} {o : Oper} {gs : List (Operand × D)}
theorem TI {f : FuncId} (h : AA P f = true) : ∃ fn, P.funcs[f]? = some fn ∧ fn.body.isSome = true ∧ (fn.name == "runtime.NumGoroutine") = false := by
 unfold AA at h
 split at h
 ·rename_i fn hf
  simp only [zA5, zI2] at h
  exact ⟨fn, hf, h.2, h.1⟩
 ·cases h
theorem Ip {f : FuncId} {s : Nat} {xs : List Operand} {capD : List D} (g : List (Bool × List T) → Option T) (hat : At st.env ops i X.n (.makeFunc (.func f) #[] xs.toArray) s gs)
  (hf : AA P f = true) (hl : xs.length = capD.length) (hx : Ge st.env (HW xs capD)) (hpub : capD.all R1 = true)
  (hclo : ∀ ar t, g ar = some t → Ap P f (ar.map Rt ++ capD) [] (one t))
  (next : Bc P X ops dr Q r (i + 1) (CO.upd ⟨gs ++ HW xs capD, [], some s, some (.e (.one (.clo g))), [], []⟩ st) ((i, ⟨gs ++ HW xs capD, [], some s, some (.e (.one (.clo g))), [], []⟩) :: log)) : Bc P X ops dr Q (r + 1) i st log := by
 obtain ⟨o, ho, hop, hd, hn, hg, hgp⟩ := hat.out
 refine Bc.step next ⟨Am.2 ⟨hgp, hx⟩, trivial, trivial⟩ (LR.value ho hg rfl hd.symm (DP hd hn) ?_)
 intro G st a w hs hpre
 have hx := (Am.1 hpre.r).2
 refine ⟨.func (.func f) #[] (xs.toArray.map a.eval), w, G, ?_, hs, ?_⟩
 ·simp only [execOp, hop]
  exact Ai (a := .func (.func f) #[] (xs.toArray.map a.eval)) (w1 := w) (by simp [Instr.makeFunc]) rfl
 ·rintro d ⟨⟩
  refine ⟨⟨f, _, rfl, TI hf, ?_⟩, fun b hb => by cases hb⟩
  intro w' S' hS' hw' hlt hgk vs ar r0 hvs has hgr
  refine (hclo ar r0 hgr w' S' (vs ++ xs.toArray.map a.eval) hlt hgk (by simp [hvs, hl]) ?_).mono ?_
  ·intro j d hj
   by_cases hja : j < ar.length
   ·rw [zC8 (by simpa using hja), zA1] at hj
    have hx0 : ar[j]? = some ar[j] := by simp [hja]
    rw [hx0] at hj; cases hj
    rw [Cv (by omega)]
    exact V9 (has j _ hx0)
   ·rw [zB9 (by simp; omega)] at hj
    simp only [zB0] at hj
    have hlt' := AF hj
    have hxj : xs[j - ar.length]? = some (xs[j - ar.length]'(by omega)) := by simp [show j - ar.length < xs.length from by omega]
    have hop' := Kt hl hx _ _ d hxj hj
    have hcell : Av (vs ++ xs.toArray.map a.eval) j = a.eval (xs[j - ar.length]'(by omega)) := by
     unfold Av
     rw [Array.getElem?_append_right (by omega), hvs]
     simp [show j - ar.length < xs.length from by omega]
    rw [hcell]
    have hcl : d.names = [] := by
     have := zA2.1 hpub d (lM hj)
     simpa [R1] using this
    exact ((hs.opd hop').mono (p := fun _ => False) (G' := G0 S') ⟨hS', fun _ h => h.elim, fun _ h => h.elim, fun _ h => h.elim⟩ hw' (fun b hb => by rw [hcl] at hb; cases hb))
  ·rintro e w'' ⟨v, G', rfl, hbel, h1, h2, h3, _⟩
   exact ⟨v, G'.S, rfl, hbel, h1, h2, h3⟩
theorem KO {x : Operand} {g : List (Bool × List T) → Option T} {s : Nat} {xs : List Operand} {ds0 : List D} {ar : List (Bool × List T)} {r0 : T} {ts : Array TypeId} (hat : At st.env ops i X.n (.call ⟨.value x, xs.toArray, ts⟩) s gs)
  (hgx : opd st.env x = some (.e (.one (.clo g)))) (hl : xs.length = ds0.length) (hx : Ge st.env (HW xs ds0)) (hds : ds0.map D.nrm = ar.map Rt) (_hpub : (ar.map Rt).all R1 = true) (hok : ar.all ZC = true) (hr : g ar = some r0)
  (next : Bc P X ops dr Q r (i + 1) (CO.upd ⟨gs ++ ((x, .e (.one (.clo g))) :: HW xs ds0), [], some s, some (one r0), [], []⟩ st) ((i, ⟨gs ++ ((x, .e (.one (.clo g))) :: HW xs ds0), [], some s, some (one r0), [], []⟩) :: log)) : Bc P X ops dr Q (r + 1) i st log := by
 obtain ⟨o, ho, hop, hd, hn, hg, hgp⟩ := hat.out
 refine Bc.step next ⟨Am.2 ⟨hgp, hgx, hx⟩, trivial, trivial⟩ ?_
 intro st a w K Q' hs hpre hK
 obtain ⟨G, hs⟩ := hs
 obtain ⟨hgx, hx⟩ := (Am.1 hpre.r).2
 have hw := hs.wanted hg (Am.1 hpre.r).1
 unfold wpOp
 rw [ho]
 simp only [hw, if_true]
 refine .inl ?_
 unfold Oper.wp
 obtain ⟨f, caps, hv, ⟨fn, hf1, hf2, hf3⟩, hcall⟩ : MW P w G.S (a.eval x) g := hs.opd hgx
 have hgood : AA P f = true := by unfold AA; rw [hf1]; simp [hf2]; simpa using hf3
 have hrun : (execOp a.eval o).run P w = .ok (.enter f (xs.toArray.map a.eval ++ caps)) w := by
  simp only [execOp, hop]
  simp only [resolve, hv, Deferred.ofValue]
  refine Ai (a := { target := .fn (.func f) caps, args := #[] ++ xs.toArray.map a.eval }) (w1 := w) rfl ?_
  simp only [invoke]
  rw [Jj hgood]; simp
 rw [hrun]
 show Calls P f (xs.toArray.map a.eval ++ caps) w _
 have hlen : xs.length = ar.length := by
  have := congrArg zF8 hds
  simp at this; omega
 refine (hcall w G.S (fun _ h => h) (fun _ _ => rfl) hs.S_lt hs.gok (xs.toArray.map a.eval) ar r0 (by simp [hlen]) ?_ hr).mono ?_
 ·intro j y hj
  have hlt := AF hj
  have hd0 : ds0[j]? = some (ds0[j]'(by omega)) := by simp [show j < ds0.length from by omega]
  have hnrm : (ds0[j]'(by omega)).nrm = Rt y := by
   have h1 : (ds0.map D.nrm)[j]? = (ar.map Rt)[j]? := by rw [hds]
   rw [zA1, zA1, hd0, hj] at h1
   simpa using h1
  have hxj : xs[j]? = some (xs[j]'(by omega)) := by simp [show j < xs.length from by omega]
  have hop' := Kt hl hx j _ _ hxj hd0
  have hcell : Av (xs.toArray.map a.eval) j = a.eval (xs[j]'(by omega)) := by simp [Av, show j < xs.length from by omega]
  rw [hcell]
  have hrd := (hs.opd hop').nrm
  rw [hnrm] at hrd
  exact ZF hrd (fun _ h => h) (zA2.1 hok y (lM hj))
 ·rintro e w' ⟨v, S'', rfl, hbel, hS1, hS2, hres⟩
  show K (a.put o.dst v) w'
  rw [hd]
  let G2 : Gh := { G with S := S'' }
  have hsz := hbel.size
  have hle := hs.below.size
  have key : Dd P X G2 ⟨st.env, Bo st.bx []⟩ a w' := by
   refine hs.frame (fun c hc => hc) ⟨hS1, fun _ _ => rfl, fun _ _ => rfl, fun _ _ => rfl⟩ (fun β hβ => hbel.block β (hs.S_lt β hβ)) ?_ ?_ ?_ ?_ ?_ (hs.below.trans (.of (hbel.mono hle))) (fun _ _ => ⟨rfl, rfl, rfl⟩)
   ·intro c k hc
    exact .inl ⟨hc, fun β hr hβ => hbel.block β (hs.at_ok c k β hc hr hβ).2.1⟩
   ·intro c k β hc hr hβ
    have := hs.at_ok c k β hc hr hβ
    refine ⟨this.1, by omega, fun h => ?_⟩
    rcases hS2 β h with h | h
    ·exact this.2.2 h
    ·omega
   ·intro c c' k k' β hc hc' hr hr' hβ hβ'
    exact hs.at_inj c c' k k' β hc hc' hr hr' hβ hβ'
   ·intro β h
    rcases hS2 β h with h | h
    ·have := hs.S_lt β h; omega
    ·exact h.2
   ·intro β h
    rcases hS2 β h with h | h
    ·exact hs.S_src β h
    ·exact .inr (by omega)
  refine hK _ _ ⟨G2, key.put (some s) (some (one r0)) v (by intro t e; cases e; exact hn) ?_⟩
  rintro d ⟨⟩
  exact ⟨hres, fun b hb => by cases hb⟩
end run
end Go.Lift
namespace Go.Lift
open Go.RowKit Go.ChangeShapes Go.WideShapes
section
variable {P : Program}
def M5 (P : Program) : Nat → List Field → Nat → Bool
 | o, [], n => o == n
 | o, f :: fs, n => f.offset == o && M5 P (o + P.cellsOf f.type) fs n
def J9 (P : Program) : Nat → TypeId → Bool
 | 0, _ => false
 | d + 1, t => match P.underlying t with
  | some (.int _) => true
  | some .bool => true
  | some .string => true
  | some (.slice e) => decide (0 < P.cellsOf e) && J9 P d e
  | some (.struct fs) => M5 P 0 fs.toList (P.cellsOf t) && fs.toList.all fun f => J9 P d f.type
  | _ => false
def Yo (F : TypeId → List T → Prop) : List TypeId → List T → Prop
 | [], ts => ts = []
 | t :: tys, ts => ∃ a b, ts = a ++ b ∧ F t a ∧ Yo F tys b
def Ls (P : Program) : Nat → TypeId → List T → Prop
 | 0, _, _ => False
 | d + 1, t, ts => match P.underlying t with
  | some (.int k) => ∃ n, ts = [.val (.int k n)] ∧ (Lit.int k n).wf = true
  | some .bool => ∃ b, ts = [.val (.bool b)]
  | some .string => ∃ s, ts = [.val (.string s)]
  | some (.slice e) => ∃ rows, ts = [.sl rows] ∧ ∀ row, row ∈ rows → Ls P d e row
  | some (.struct fs) => Yo (Ls P d) (fs.toList.map (·.type)) ts
  | _ => False
def I4 (w : World) (S : Nat → Prop) : List Value → List T → Prop
 | [], [] => True
 | v :: vs, t :: ts => DU w S v t ∧ I4 w S vs ts
 | _, _ => False
theorem I4.append {w : World} {S : Nat → Prop} : ∀ {a b : List Value} {x y : List T}, I4 w S a x → I4 w S b y → I4 w S (a ++ b) (x ++ y)
 | [], _, [], _, _, h => h
 | _ :: _, _, _ :: _, _, h1, h2 => ⟨h1.1, I4.append h1.2 h2⟩
theorem I4.len {w : World} {S : Nat → Prop} : ∀ {a : List Value} {x : List T}, I4 w S a x → a.length = x.length
 | [], [], _ => rfl
 | _ :: _, _ :: _, h => by simp [h.2.len]
theorem I4.get {w : World} {S : Nat → Prop} : ∀ {a : List Value} {x : List T}, I4 w S a x → ∀ (j : Nat) (t : T), x[j]? = some t → ∃ v, a[j]? = some v ∧ DU w S v t
 | [], [], _, j, t, hj => by simp at hj
 | v :: _, _ :: _, h, 0, t, hj => by simp at hj; subst hj; exact ⟨v, rfl, h.1⟩
 | _ :: _, _ :: _, h, j + 1, t, hj => by
  obtain ⟨v, h1, h2⟩ := h.2.get j t (by simpa using hj)
  exact ⟨v, by simpa using h1, h2⟩
theorem Od {α : Type} {p : Nat → α → Prop} : ∀ (n : Nat), (∀ i, i < n → ∃ x, p i x) → ∃ l : List α, l.length = n ∧ ∀ i x, l[i]? = some x → p i x
 | 0, _ => ⟨[], rfl, fun i x h => by simp at h⟩
 | n + 1, h => by
  obtain ⟨l, h1, h2⟩ := Od n (fun i hi => h i (by omega))
  obtain ⟨x, hx⟩ := h n (by omega)
  refine ⟨l ++ [x], by simp [h1], fun i y hi => ?_⟩
  by_cases hlt : i < l.length
  ·rw [zC8 hlt] at hi; exact h2 i y hi
  ·rw [zB9 (by omega)] at hi
   have : i - l.length = 0 := by
    have := AF hi
    simp at this; omega
   rw [this] at hi
   simp at hi; subst hi
   have : i = n := by omega
   subst this; exact hx
theorem Lz {α : Type} {f : Nat → Option α} : ∀ {n : Nat} {l : List α}, (zB4 n).mapM f = some l → l.length = n ∧ ∀ i, i < n → f i = l[i]? := by
 intro n l h
 have h1 := mapM_some_length h
 refine ⟨by simpa using h1, fun i hi => ?_⟩
 exact mapM_some_get h i i (by simp [hi])
theorem Te {w : World} {b o : Nat} {v : Value} (h : w.cell? ⟨b, o, none⟩ = some v) : ∃ arr el fz, w.heap[b]? = some (.cells arr el fz) ∧ arr[o]? = some v := by
 unfold World.cell? at h
 split at h
 ·rename_i c el fz hc
  exact ⟨c, el, fz, hc, by simpa using h⟩
 ·cases h
theorem YI {w : World} {b : Nat} {o : Obj} (h : w.heap[b]? = some o) : b < w.heap.size := by
 rcases zD3 b w.heap.size with h1 | h1
 ·exact h1
 ·rw [zD5 h1] at h; cases h
abbrev T5 (w : World) : Nat → Prop := fun β => β < w.heap.size
theorem Qp {H : Type} {enc : TypeId × Value → H} {w : World} {sp : Nat → Bool} {held : Bool} {n d : Nat} {cs : List Value}
  (ih : ∀ (t : TypeId) (cs : List Value) (x : DataW H × List MemPlace), J9 P d t = true → DataW.trod enc P w 0 sp held n t cs = some x → ∃ ts, I4 w (T5 w) cs ts ∧ Ls P d t ts) :
  ∀ (fs : List Field) (o : Nat), M5 P o fs cs.length = true → (fs.all fun f => J9 P d f.type) = true →
   (∀ f, f ∈ fs → ∃ x, DataW.trod enc P w 0 sp held n f.type ((cs.drop f.offset).take (P.cellsOf f.type)) = some x) →
   ∃ ts, I4 w (T5 w) (cs.drop o) ts ∧ Yo (Ls P d) (fs.map (·.type)) ts
 | [], o, hc, _, _ => by
  simp only [M5, beq_iff_eq] at hc
  refine ⟨[], ?_, rfl⟩
  rw [zD9 (by omega)]; trivial
 | f :: fs, o, hc, hp, hx => by
  simp only [M5, zA5, beq_iff_eq] at hc
  simp only [zG7, zA5] at hp
  obtain ⟨x, hx0⟩ := hx f (by simp)
  rw [hc.1] at hx0
  obtain ⟨ts, h1, h2⟩ := ih _ _ _ hp.1 hx0
  obtain ⟨us, h3, h4⟩ := Qp ih fs _ hc.2 hp.2 (fun g hg => hx g (by simp [hg]))
  refine ⟨ts ++ us, ?_, ⟨ts, us, rfl, h2, h4⟩⟩
  have : cs.drop o = (cs.drop o).take (P.cellsOf f.type) ++ cs.drop (o + P.cellsOf f.type) := by
   rw [← List.drop_drop, List.take_append_drop]
  rw [this]
  exact h1.append h3
theorem Ru {H : Type} {enc : TypeId × Value → H} {w : World} {sp : Nat → Bool} {held : Bool} : ∀ (d fuel : Nat) (t : TypeId) (cs : List Value) (x : DataW H × List MemPlace), J9 P d t = true → DataW.trod enc P w 0 sp held fuel t cs = some x → ∃ ts, I4 w (T5 w) cs ts ∧ Ls P d t ts
 | 0, _, _, _, _, hp, _ => by cases hp
 | d + 1, fuel, t, cs, x, hp, hx => by
  unfold J9 at hp
  unfold Ls
  split at hp
  ·rename_i k hu
   obtain ⟨n, rfl, _, hw⟩ := DataW.trod_int hu hx
   exact ⟨[.val (.int k n)], ⟨.val _ rfl, trivial⟩, n, rfl, hw⟩
  ·rename_i hu
   obtain ⟨b, rfl, _⟩ := DataW.trod_bool hu hx
   exact ⟨[.val (.bool b)], ⟨.val _ rfl, trivial⟩, b, rfl⟩
  ·rename_i hu
   obtain ⟨b, rfl, _⟩ := DataW.trod_string hu hx
   exact ⟨[.val (.string b)], ⟨.val _ rfl, trivial⟩, b, rfl⟩
  ·rename_i e hu
   simp only [zA5, decide_eq_true_eq] at hp
   rcases DataW.trod_slice hu hx with ⟨rfl, _⟩ | ⟨a, len, cap, elems, rest, n, rfl, rfl, _, _, hl, _, hlen, hel, _, _⟩
   ·exact ⟨[.sl []], ⟨.nil none 0, trivial⟩, [], rfl, fun row h => by cases h⟩
   ·have hrow : ∀ i, i < len → ∃ row, ∃ csi, w.cells? 0 (a.add (i * P.cellsOf e)) (P.cellsOf e) = some csi ∧ I4 w (T5 w) csi row ∧ Ls P d e row := by
     intro i hi
     have h1 := hel i hi
     have h2 : elems[i]? = some (elems[i]'(by omega)) := by simp [show i < elems.length from by omega]
     rw [h2] at h1
     obtain ⟨csi, h3, h4⟩ := Option.bind_eq_some_iff.1 h1
     obtain ⟨row, h5, h6⟩ := Ru d n e csi _ hp.2 h4
     exact ⟨row, csi, h3, h5, h6⟩
    obtain ⟨rows, hrl, hrows⟩ := Od len hrow
    subst hrl
    refine ⟨[.sl rows], ⟨?_, trivial⟩, rows, rfl, fun row hm => ?_⟩
    ·cases hr0 : rows with
     | nil => exact .nil _ _
     | cons r0 rs0 =>
      rw [← hr0]
      have hpos : 0 < rows.length := by rw [hr0]; simp
      -- each cell
      have hcell : ∀ (i : Nat) (row : List T) (j : Nat) (u : T), rows[i]? = some row → row[j]? = some u → j < P.cellsOf e ∧ ∃ v, w.cell? ((a.add (i * P.cellsOf e)).add j) = some v ∧ DU w (T5 w) v u := by
       intro i row j u hi hj
       obtain ⟨csi, h1, h2, _⟩ := hrows i row hi
       obtain ⟨v, h3, h4⟩ := h2.get j u hj
       unfold World.cells? at h1
       rw [if_pos (zA9 _)] at h1
       obtain ⟨h5, h6⟩ := Lz h1
       have hjl : j < P.cellsOf e := by have := AF h3; omega
       exact ⟨hjl, v, by rw [h6 j hjl, h3], h4⟩
      have hrlen : ∀ (i : Nat) (row : List T), rows[i]? = some row → row.length = P.cellsOf e := by
       intro i row hi
       obtain ⟨csi, h1, h2, _⟩ := hrows i row hi
       unfold World.cells? at h1
       rw [if_pos (zA9 _)] at h1
       obtain ⟨h5, _⟩ := Lz h1
       rw [← h2.len, h5]
      have hget : ∀ i (hi : i < rows.length), rows[i]? = some (rows[i]'hi) := fun i hi => by simp [hi]
      have hr00 := hget 0 hpos
      have hl0 := hrlen 0 _ hr00
      obtain ⟨_, v0, hv0, _⟩ := hcell 0 _ 0 ((rows[0]'hpos)[0]'(by omega)) hr00 (by simp)
      have hadd0 : (a.add (0 * P.cellsOf e)).add 0 = a := by simp [Addr.add]
      rw [hadd0] at hv0
      have hspot := World.cell?_spot hv0
      obtain ⟨β, off, spot⟩ := a
      simp only at hspot
      subst hspot
      obtain ⟨arr, el, fz, hb, _⟩ := Te hv0
      have hadd : ∀ i j : Nat, ((⟨β, off, none⟩ : Addr).add (i * P.cellsOf e)).add j = ⟨β, off + i * P.cellsOf e + j, none⟩ := by
       intro i j
       unfold Addr.add
       split
       ·rename_i h1
        split
        ·rename_i h2; rw [h2]; simp
        ·rename_i h2; simp only [Addr.mk.injEq, true_and, and_true]; omega
       ·split <;> simp_all <;> omega
      have hat : ∀ (i : Nat) (row : List T) (j : Nat) (u : T), rows[i]? = some row → row[j]? = some u → off + i * P.cellsOf e + j < arr.size ∧ DU w (T5 w) (Av arr (off + i * P.cellsOf e + j)) u := by
       intro i row j u hi hj
       obtain ⟨_, v, h1, h2⟩ := hcell i row j u hi hj
       rw [hadd] at h1
       obtain ⟨arr', el', fz', h3, h4⟩ := Te h1
       rw [hb] at h3; cases h3
       have hlt : off + i * P.cellsOf e + j < arr.size := by
        rcases zD3 (off + i * P.cellsOf e + j) arr.size with h | h
        ·exact h
        ·rw [zD5 h] at h4; cases h4
       refine ⟨hlt, ?_⟩
       have : Av arr (off + i * P.cellsOf e + j) = v := by unfold Av; rw [h4]; rfl
       rw [this]; exact h2
      refine .sl β off cap (P.cellsOf e) arr el fz rows (YI hb) hb hl ?_ hrlen (fun i row j u hi hj => (hat i row j u hi hj).2)
      have hil := hget (rows.length - 1) (by omega)
      have hll := hrlen _ _ hil
      have h7 := (hat (rows.length - 1) _ (P.cellsOf e - 1) ((rows[rows.length - 1]'(by omega))[P.cellsOf e - 1]'(by omega)) hil (by simp)).1
      have h8 : rows.length * P.cellsOf e = (rows.length - 1) * P.cellsOf e + P.cellsOf e := by
       rw [← zC1]; congr 1; omega
      omega
    ·obtain ⟨i, hi⟩ := zB3.1 hm
     obtain ⟨_, _, _, h⟩ := hrows i row hi
     exact h
  ·rename_i fs hu
   simp only [zA5] at hp
   obtain ⟨xs, n, rfl, _, hcl, hxl, hf⟩ := DataW.trod_struct hu hx
   have := Qp (enc := enc) (sp := sp) (held := held) (cs := cs) (fun t cs x h1 h2 => Ru d n t cs x h1 h2) fs.toList 0 (by rw [hcl]; exact hp.1) hp.2 (fun f hm => by
    obtain ⟨i, hi⟩ := zB3.1 hm
    have hi' : fs[i]? = some f := by simpa using hi
    have h1 := hf i f hi'
    have hlt : i < fs.size := by
     have := AF hi
     simpa using this
    exact ⟨xs[i]'(by omega), by rw [h1]; simp [show i < xs.length from by omega]⟩)
   simpa using this
  ·cases hp
end
end Go.Lift
namespace Go.Lift
open Go.RowKit Go.ChangeShapes Go.WideShapes
section
variable {P : Program}
def Z9 (P : Program) (t : TypeId) (us : List T) : D := match P.underlying t with
 | some (.struct _) => .e (.agg (us.map .pure))
 | _ => .e (.one (.pure (us.headD .nil0)))
def KW (P : Program) (d : Nat) : List TypeId → List D → Prop
 | [], [] => True
 | t :: ts, x :: xs => (∃ us, Ls P d t us ∧ x = Z9 P t us) ∧ KW P d ts xs
 | _, _ => False
theorem aC {H : Type} {enc : TypeId × Value → H} {w : World} {d base : Nat} {t : TypeId} {v : Value} {x : DataW H} {ps : List MemPlace} (hp : J9 P d t = true) (hval : Value.okWide P w .any base t v) (h : DataW.Trod enc P w 0 (fun _ => true) true t v x ps) :
  ∃ us, Ls P d t us ∧ HI P w (G0 (T5 w)) v (Z9 P t us) := by
 obtain ⟨fuel, hf⟩ := h
 obtain ⟨us, h1, h2⟩ := Ru d fuel t _ _ hp hf
 refine ⟨us, h2, ?_⟩
 have single : ∀ (v : Value), v.cells.toList = [v] → I4 w (T5 w) v.cells.toList us → HI P w (G0 (T5 w)) v (.e (.one (.pure (us.headD .nil0)))) := by
  intro v hv hr
  rw [hv] at hr
  match us, hr with
  | [u], hr => exact hr.1
 unfold Z9
 cases d with
 | zero => cases hp
 | succ d =>
  unfold J9 at hp
  split at hp
  ·rename_i k hu
   rw [hu]
   obtain ⟨n, rfl⟩ := okWide_int hu hval
   exact single _ rfl h1
  ·rename_i hu
   rw [hu]
   obtain ⟨n, rfl⟩ := okWide_bool hu hval
   exact single _ rfl h1
  ·rename_i hu
   rw [hu]
   obtain ⟨n, rfl⟩ := okWide_string hu hval
   exact single _ rfl h1
  ·rename_i e hu
   rw [hu]
   obtain ⟨a, len, cap, rfl⟩ := okWide_slice hu hval
   exact single _ rfl h1
  ·rename_i fs hu
   rw [hu]
   simp only [Value.okWide, hu] at hval
   obtain ⟨cs, rfl, _, _⟩ := hval
   have h1 : I4 w (T5 w) cs.toList us := h1
   refine ⟨cs, rfl, by simpa using h1.len, fun j c hj => ?_⟩
   rw [zA1] at hj
   cases hx : us[j]? with
   | none => rw [hx] at hj; cases hj
   | some u =>
    rw [hx] at hj; cases hj
    obtain ⟨v, h3, h4⟩ := h1.get j u hx
    have : Av cs j = v := by unfold Av; rw [show cs[j]? = some v from by simpa using h3]; rfl
    rw [this]; exact h4
  ·cases hp
theorem UA {H : Type} {enc : TypeId × Value → H} {w : World} {d base : Nat} : ∀ {ts : List TypeId} {vs : List Value} {ds : List (DataW H)} {ps : List MemPlace}, (ts.all (J9 P d)) = true → (∀ (j : Nat) t v, ts[j]? = some t → vs[j]? = some v → Value.okWide P w .any base t v) →
  DataW.TrodAll enc P w 0 (fun _ => true) true ts vs ds ps → ∃ Ds, KW P d ts Ds ∧ vs.length = Ds.length ∧ ds.length = ts.length ∧ ∀ (j : Nat) (x : D), Ds[j]? = some x → ∃ v, vs[j]? = some v ∧ HI P w (G0 (T5 w)) v x
 | [], [], [], _, _, _, _ => ⟨[], trivial, rfl, rfl, fun j x h => by simp at h⟩
 | t :: ts, v :: vs, x :: xs, _, hp, hval, h => by
  obtain ⟨p, q, h1, h2, _⟩ := h
  simp only [zG7, zA5] at hp
  obtain ⟨us, h3, h4⟩ := aC hp.1 (hval 0 t v rfl rfl) h1
  obtain ⟨Ds, h5, h6, h7, h8⟩ := UA hp.2 (fun j t v hj hv => hval (j + 1) t v (by simpa using hj) (by simpa using hv)) h2
  refine ⟨Z9 P t us :: Ds, ⟨⟨us, h3, rfl⟩, h5⟩, by simp [h6], by simp [h7], fun j y hj => ?_⟩
  cases j with
  | zero => simp at hj; subst hj; exact ⟨v, rfl, h4⟩
  | succ j =>
   obtain ⟨v', g1, g2⟩ := h8 j y (by simpa using hj)
   exact ⟨v', by simpa using g1, g2⟩
 | [], [], _ :: _, _, _, _, h => h.elim
 | [], _ :: _, _, _, _, _, h => by cases ‹List (DataW H)› <;> exact h.elim
 | _ :: _, [], _, _, _, _, h => by cases ‹List (DataW H)› <;> exact h.elim
 | _ :: _, _ :: _, [], _, _, _, h => h.elim
theorem Mk {H : Type} {enc : TypeId × Value → H} (hl : laidOutB P = true) {W W' : World} (hb : Below W.heap.size W W') : ∀ {ts : List TypeId} {vs : List Value} {ds : List (DataW H)} {ps : List MemPlace}, (ts.all fun t => P.readableRec t && decide (t < P.types.size)) = true →
  DataW.TrodAll enc P W 0 (fun _ => true) true ts vs ds ps → (∀ x ∈ ps, x.block < W.heap.size) → DataW.TrodAll enc P W' 0 (fun b => decide (b < W.heap.size)) true ts vs ds ps
 | [], [], [], _, _, h, _ => h
 | t :: ts, v :: vs, x :: xs, _, hr, h, hlt => by
  obtain ⟨p, q, h1, h2, rfl⟩ := h
  simp only [zG7, zA5, decide_eq_true_eq] at hr
  refine ⟨p, q, Below.trod hl hr.1.1 hr.1.2 h1 hb (fun y hy => hlt y (by simp [hy])), Mk hl hb (by simpa using hr.2) h2 (fun y hy => hlt y (by simp [hy])), rfl⟩
 | [], [], _ :: _, _, _, h, _ => h.elim
 | [], _ :: _, _, _, _, h, _ => by cases ‹List (DataW H)› <;> exact h.elim
 | _ :: _, [], _, _, _, h, _ => by cases ‹List (DataW H)› <;> exact h.elim
 | _ :: _, _ :: _, [], _, _, h, _ => h.elim
end
end Go.Lift
namespace Go.Lift
open Go.RowKit
section
variable {P : Program}
def VK {α : Type} (P : Program) (t : TypeId) (e : α → List T) (W : α → Prop) : Prop := ∀ (d : Nat) (ts : List T), Ls P d t ts → ∃ x, ts = e x ∧ W x
theorem UQ {t : TypeId} {k : IntKind} {e : Int → List T} (h : P3 P t k = true) (he : ∀ n, e n = [.val (.int k n)]) : VK P t e (fun n => (Lit.int k n).wf = true) := by
 intro d ts hf
 cases d with
 | zero => exact hf.elim
 | succ d =>
  unfold P3 at h
  unfold Ls at hf
  split at h
  ·rename_i k' hu
   rw [hu] at hf
   obtain ⟨n, rfl, hw⟩ := hf
   have : k' = k := by simpa using h
   subst this
   exact ⟨n, (he n).symm, hw⟩
  ·cases h
theorem Xy {t : TypeId} {e : Bool → List T} (h : Zd P t = true) (he : ∀ n, e n = [.val (.bool n)]) : VK P t e (fun _ => True) := by
 intro d ts hf
 cases d with
 | zero => exact hf.elim
 | succ d =>
  unfold Zd at h
  unfold Ls at hf
  split at h
  ·rename_i hu
   rw [hu] at hf
   obtain ⟨n, rfl⟩ := hf
   exact ⟨n, (he n).symm, trivial⟩
  ·cases h
theorem OG {α : Type} {e : α → List T} {W : α → Prop} : ∀ (rows : List (List T)), (∀ row, row ∈ rows → ∃ x, row = e x ∧ W x) → ∃ xs : List α, rows = xs.map e ∧ ∀ x, x ∈ xs → W x
 | [], _ => ⟨[], rfl, fun x h => by cases h⟩
 | r :: rows, h => by
  obtain ⟨x, rfl, hx⟩ := h r (by simp)
  obtain ⟨xs, rfl, hxs⟩ := OG rows (fun row hr => h row (by simp [hr]))
  exact ⟨x :: xs, rfl, fun y hy => by
   rcases zB6.1 hy with e | e
   ·subst e; exact hx
   ·exact hxs y e⟩
theorem Qj {α : Type} {t el : TypeId} {e : α → List T} {W : α → Prop} {e2 : List α → List T} (h : sliceB P t el = true) (he : VK P el e W) (h2 : ∀ xs, e2 xs = [.sl (xs.map e)]) : VK P t e2 (fun xs => ∀ x, x ∈ xs → W x) := by
 intro d ts hf
 cases d with
 | zero => exact hf.elim
 | succ d =>
  unfold sliceB at h
  unfold Ls at hf
  split at h
  ·rename_i e' hu
   rw [hu] at hf
   obtain ⟨rows, rfl, hr⟩ := hf
   have : e' = el := by simpa using h
   subst this
   obtain ⟨xs, rfl, hxs⟩ := OG rows (fun row hm => he d row (hr row hm))
   exact ⟨xs, (h2 xs).symm, hxs⟩
  ·cases h
def Kr (P : Program) (t : TypeId) : Option (List TypeId) := match P.underlying t with | some (.struct fs) => some (fs.toList.map (·.type)) | _ => none
theorem Pe {t : TypeId} {tys : List TypeId} (h : Kr P t = some tys) {d : Nat} {ts : List T} (hf : Ls P d t ts) : ∃ d', Yo (Ls P d') tys ts := by
 cases d with
 | zero => exact hf.elim
 | succ d =>
  unfold Kr at h
  unfold Ls at hf
  split at h
  ·rename_i fs hu
   cases h
   rw [hu] at hf
   exact ⟨d, hf⟩
  ·cases h
theorem TC {t : TypeId} {tys : List TypeId} (h : Kr P t = some tys) (us : List T) : Z9 P t us = .e (.agg (us.map .pure)) := by
 unfold Kr at h
 unfold Z9
 revert h
 cases P.underlying t with
 | none => intro h; cases h
 | some k => cases k <;> intro h <;> first | rfl | cases h
theorem Rc {d : Nat} {t : TypeId} {ts : List TypeId} {Ds : List D} (h : KW P d (t :: ts) Ds) : ∃ us xs, Ds = Z9 P t us :: xs ∧ Ls P d t us ∧ KW P d ts xs := by
 cases Ds with
 | nil => exact h.elim
 | cons x xs => obtain ⟨⟨us, h1, rfl⟩, h2⟩ := h; exact ⟨us, xs, rfl, h1, h2⟩
theorem Si {d : Nat} {Ds : List D} (h : KW P d [] Ds) : Ds = [] := by
 cases Ds with
 | nil => rfl
 | cons x xs => exact h.elim
end
end Go.Lift
namespace Go.Lift
open List renaming mem_of_getElem? → lM
open List renaming getD_eq_getElem?_getD → lD
open Go.RowKit
variable {P : Program} {X : IX} {ops : Array Oper}
instance : Inhabited BL := ⟨.gone⟩
def JN (n m b : Nat) : Bool := if Bv b then Nat.blt (b - 90000) n else Nat.blt b m
def U7 (G : Gh) (n : Nat) (β : Nat) : Prop := ∃ k, k < n ∧ G.has (90000 + k) β
theorem JG {k : Nat} (h : k < 1000) : Bv (90000 + k) = true := by
 unfold Bv
 rw [zI4 (by omega), zI4 (by omega)]; rfl
theorem Vh {k : Nat} (h : k < 900) : Q0 (90000 + k) = true := by
 unfold Q0
 rw [zA5]
 exact ⟨zI4 (by omega), zI4 (by omega)⟩
theorem KG {b : Nat} (h : Bv b = true) : ∃ k, k < 1000 ∧ b = 90000 + k := by
 unfold Bv at h
 rw [zA5] at h
 have h1 := zD0 h.1
 have h2 := zD0 h.2
 exact ⟨b - 90000, by omega, by omega⟩
def Ex (P : Program) (f : FuncId) (args : List D) (lent : List (BL × BL)) (rv : List BL) (res : D) : Prop :=
 ∀ (w : World) (G : Gh) (vs : Array Value), (∀ β, G.S β → β < w.heap.size) → XN P w G.S →
  (∀ (k : Nat) (x : BL × BL), lent[k]? = some x → Em P w G (90000 + k) x.1) →
  (∀ k β, k < lent.length → G.has (90000 + k) β → β < w.heap.size ∧ ¬ G.S β) →
  (∀ k l β, k < lent.length → l < lent.length → G.has (90000 + k) β → G.has (90000 + l) β → k = l) →
  vs.size = args.length → (∀ (j : Nat) (d : D), args[j]? = some d → HI P w G (Av vs j) d) →
  Calls P f vs w fun e w' => ∃ v G', e = .returned v ∧ Dw (U7 G lent.length) w.heap.size w w' ∧ (∀ β, G.S β → G'.S β) ∧ (∀ β, G'.S β → G.S β ∨ (w.heap.size ≤ β ∧ β < w'.heap.size)) ∧ HI P w' G' v res ∧
   (∀ (k : Nat) (x : BL × BL), lent[k]? = some x → Em P w' G' (90000 + k) x.2) ∧
   (∀ (k : Nat) (x : BL), rv[k]? = some x → Em P w' G' k x) ∧
   (∀ k, k < lent.length → G'.loc (90000 + k) = G.loc (90000 + k) ∧ G'.hd (90000 + k) = G.hd (90000 + k) ∧ G'.more (90000 + k) = G.more (90000 + k)) ∧
   (∀ k β, k < lent.length → G'.has (90000 + k) β → ¬ G'.S β) ∧
   (∀ k β, k < rv.length → G'.has k β → w.heap.size ≤ β ∧ β < w'.heap.size ∧ ¬ G'.S β) ∧
   (∀ k l β, k < rv.length → l < rv.length → G'.has k β → G'.has l β → k = l)
def Qw (args : List D) (lent : List (BL × BL)) : St := ⟨fun s => args[s]?, fun b => if Bv b then (lent[b - 90000]?).map (·.1) else none⟩
def RG (bx : Nat → Option BL) (f : Nat → Nat) : Nat → List (BL × BL) → Prop
 | _, [] => True
 | k, x :: xs => bx (90000 + k) = some (x.2.ren f) ∧ RG bx f (k + 1) xs
def Ug (bx : Nat → Option BL) (f : Nat → Nat) : Nat → List BL → Prop
 | _, [] => True
 | k, x :: xs => bx (1000 + k) = some (x.ren f) ∧ Ug bx f (k + 1) xs
theorem Og {bx : Nat → Option BL} {f : Nat → Nat} : ∀ {l : List (BL × BL)} {m : Nat}, RG bx f m l → ∀ (k : Nat) (x : BL × BL), l[k]? = some x → bx (90000 + (m + k)) = some (x.2.ren f)
 | y :: rv, m, h, 0, x, hk => by simp at hk; subst hk; exact h.1
 | y :: rv, m, h, k + 1, x, hk => by
  have := Og h.2 k x (by simpa using hk)
  rwa [show m + 1 + k = m + (k + 1) from by omega] at this
theorem Po {bx : Nat → Option BL} {f : Nat → Nat} : ∀ {l : List BL} {m : Nat}, Ug bx f m l → ∀ (k : Nat) (x : BL), l[k]? = some x → bx (1000 + (m + k)) = some (x.ren f)
 | y :: rv, m, h, 0, x, hk => by simp at hk; subst hk; exact h.1
 | y :: rv, m, h, k + 1, x, hk => by
  have := Po h.2 k x (by simpa using hk)
  rwa [show m + 1 + k = m + (k + 1) from by omega] at this
def Ma (b : Nat) : Nat := if Bv b then b else 1000 + b
structure Xp (P : Program) (rs : List ResultVar) (st : St) (lent : List (BL × BL)) (rv : List BL) (res : D) : Prop where
 r : ∃ xs, bY P st rs xs ∧ bZ xs = res.ren Ma
 l : RG st.bx Ma 0 lent
 v : Ug st.bx Ma 0 rv
def Iy (n m : Nat) (l : List Nat) : Bool := l.all (JN n m)
theorem G1 {f n : Nat} {fn : Func} {c : Code} {args : List D} {lent : List (BL × BL)} {rv : List BL} {res : D} {rs : List ResultVar} (hf : P.funcs[f]? = some fn) (hb : fn.body = some c) (hn : fn.ntmps = n) (hrs : fn.results.toList = rs) (hl : args.length ≤ n) (hn9 : n ≤ 90000)
  (hargs : (args.all fun d => Iy lent.length 0 d.names) = true) (hpre : (lent.all fun x => Iy lent.length 0 x.1.names && x.1.real && x.2.real) = true) (hll : lent.length ≤ 900) (hrl : (rv.all fun x => x.real) = true) (hrn : rv.length ≤ 1000)
  (h : ∀ (w0 : World) (S0 : Nat → Prop) (GL : Gh), W P ⟨w0, S0, n, GL⟩ c (fun e st => match e with | .normal | .ret => Xp P rs st lent rv res | _ => False) (Qw args lent)) : Ex P f args lent rv res := by
 subst hn; subst hrs
 intro w G vs hS hgk hlb hla hli hlen hrd
 refine calls_of_wp hf hb ?_
 have hcell : ∀ j, j < args.length → Av (vs ++ zJ3 (fn.ntmps - vs.size) undef) j = Av vs j := fun j hj => Cv (by omega)
 -- the ghost that knows of what is lent alone
 let dom : Nat → Prop := fun b => Bv b = true ∧ b - 90000 < lent.length
 have hdec : ∀ b, Decidable (dom b) := fun b => inferInstanceAs (Decidable (_ ∧ _))
 let GL : Gh := { S := G.S, loc := fun b => if dom b then G.loc b else none, hd := fun b => if dom b then G.hd b else undef, more := fun b => if dom b then G.more b else fun _ => False }
 have hext : G.ext GL dom := ⟨fun _ h => h, fun b hb => if_pos hb, fun b hb => if_pos hb, fun b hb => if_pos hb⟩
 have hdomk : ∀ k, k < lent.length → dom (90000 + k) := fun k hk => ⟨JG (by omega), by omega⟩
 have hin : ∀ b, JN lent.length 0 b = true → dom b := by
  intro b hb
  unfold JN at hb
  split at hb
  ·rename_i hl; exact ⟨hl, by rwa [zI1] at hb⟩
  ·simp [Nat.blt] at hb
 have hhas : ∀ b β, GL.has b β → dom b ∧ G.has b β := by
  intro b β hb
  by_cases hd : dom b
  ·exact ⟨hd, (hext.has hd).1 hb⟩
  ·exfalso
   unfold Gh.has at hb
   simp only [GL] at hb
   rw [if_neg hd, if_neg hd] at hb
   rcases hb with h | h
   ·cases h
   ·exact h
 have hlent : ∀ β, GL.lent β ↔ U7 G lent.length β := by
  intro β
  constructor
  ·rintro ⟨b, hb, hb2⟩
   obtain ⟨hd, hg⟩ := hhas b β hb2
   obtain ⟨k, _, rfl⟩ := KG hb
   exact ⟨k, by have := hd.2; omega, hg⟩
  ·rintro ⟨k, hk, hg⟩
   exact ⟨90000 + k, JG (by omega), (hext.has (hdomk k hk)).2 hg⟩
 have hbx : ∀ b k, (Qw args lent).bx b = some k → dom b ∧ ∃ x, lent[b - 90000]? = some x ∧ x.1 = k := by
  intro b k hk
  simp only [Qw] at hk
  split at hk
  ·rename_i hb
   cases hx : lent[b - 90000]? with
   | none => rw [hx] at hk; cases hk
   | some x => rw [hx] at hk; cases hk; exact ⟨⟨hb, AF hx⟩, x, rfl, rfl⟩
  ·cases hk
 have hdn : ∀ b, dom b → ((Qw args lent).bx b).isSome = true := by
  intro b hb
  simp only [Qw]
  rw [if_pos hb.1]
  simp [hb.2]
 have hpre' : ∀ x, x ∈ lent → Iy lent.length 0 x.1.names = true ∧ x.1.real = true ∧ x.2.real = true := fun x hx => by
  have := zA2.1 hpre x hx
  rw [zA5, zA5] at this
  exact ⟨this.1.1, this.1.2, this.2⟩
 have hbk : ∀ b, dom b → b = 90000 + (b - 90000) := fun b hb => by obtain ⟨k, _, e⟩ := KG hb.1; omega
 have hinit : Dd P ⟨w, G.S, fn.ntmps, GL⟩ GL (Qw args lent) { tmps := vs ++ zJ3 (fn.ntmps - vs.size) undef, defers := [] } w := by
  refine { S_lt := hS, S_src := fun β h => .inl h, S_0 := fun β h => h, S0_lt := hS, tsz := by simp; omega, defers := rfl, below := Dw.refl _ _ _, gok := hgk, nlt := hn9, lent := fun _ _ => ⟨rfl, rfl, rfl⟩, blk := ?_, at_ok := ?_, at_inj := ?_, env := ?_, live := ?_, liveB := ?_ }
  ·intro b k hk
   obtain ⟨hd, x, hx, rfl⟩ := hbx b k hk
   have h1 := hlb _ x hx
   rw [← hbk b hd] at h1
   exact h1.mono hext hd (fun _ _ => rfl) (fun _ _ _ => rfl) fun c hc => hin c (zA2.1 (hpre' x (lM hx)).1 c hc)
  ·intro b k β hk hr hβ
   obtain ⟨hd, hg⟩ := hhas b β hβ
   rw [hbk b hd] at hg
   have := hla _ β hd.2 hg
   exact ⟨⟨fun h3 => (by rw [hd.1] at h3; cases h3), .inr ⟨b, hd.1, hβ⟩⟩, this.1, this.2⟩
  ·intro b c k l β hk hl hr hr' hβ hβ'
   obtain ⟨hd, hg⟩ := hhas b β hβ
   obtain ⟨hd', hg'⟩ := hhas c β hβ'
   rw [hbk b hd] at hg
   rw [hbk c hd'] at hg'
   have := hli _ _ β hd.2 hd'.2 hg hg'
   rw [hbk b hd, hbk c hd', this]
  ·intro s d hs
   have hs' : args[s]? = some d := hs
   rw [hcell s (AF hs')]
   exact (hrd s d hs').mono hext (fun _ _ => rfl) fun b hb => hin b (zA2.1 (zA2.1 hargs d (lM hs')) b hb)
  ·intro s d hs b hb
   have hs' : args[s]? = some d := hs
   exact hdn b (hin b (zA2.1 (zA2.1 hargs d (lM hs')) b hb))
  ·intro b k hk c hc
   obtain ⟨hd, x, hx, rfl⟩ := hbx b k hk
   exact hdn c (hin c (zA2.1 (hpre' x (lM hx)).1 c hc))
 refine wp_mono (h w G.S GL _ w ⟨_, hinit⟩) ?_
 rintro e a' w' ⟨st', hq, G2, hs⟩
 have key : Xp P fn.results.toList st' lent rv res → a'.defers = [] ∧ ∃ v, (results fn a'.tmps).run P w' = .ok v w' ∧ ∃ v' G', Ending.returned v = .returned v' ∧ Dw (U7 G lent.length) w.heap.size w w' ∧ (∀ β, G.S β → G'.S β) ∧ (∀ β, G'.S β → G.S β ∨ (w.heap.size ≤ β ∧ β < w'.heap.size)) ∧ HI P w' G' v' res ∧
   (∀ (k : Nat) (x : BL × BL), lent[k]? = some x → Em P w' G' (90000 + k) x.2) ∧
   (∀ (k : Nat) (x : BL), rv[k]? = some x → Em P w' G' k x) ∧
   (∀ k, k < lent.length → G'.loc (90000 + k) = G.loc (90000 + k) ∧ G'.hd (90000 + k) = G.hd (90000 + k) ∧ G'.more (90000 + k) = G.more (90000 + k)) ∧
   (∀ k β, k < lent.length → G'.has (90000 + k) β → ¬ G'.S β) ∧
   (∀ k β, k < rv.length → G'.has k β → w.heap.size ≤ β ∧ β < w'.heap.size ∧ ¬ G'.S β) ∧
   (∀ k l β, k < rv.length → l < rv.length → G'.has k β → G'.has l β → k = l) := by
  rintro ⟨⟨xs, hr1, hr2⟩, hlp, hv⟩
  obtain ⟨us, h1, h2, h3⟩ := hs.rrs hr1
  have hoL : ∀ k, k < lent.length → Ma (90000 + k) = 90000 + k := fun k hk => by unfold Ma; rw [JG (by omega)]; rfl
  have hoN : ∀ k, k < rv.length → Ma k = 1000 + k := fun k hk => by unfold Ma; rw [KA (show k < 1000 by omega) (by omega)]; rfl
  have hbl : ∀ (k : Nat) (x : BL × BL), lent[k]? = some x → st'.bx (90000 + k) = some (x.2.ren Ma) := fun k x hk => by
   have := Og hlp k x hk
   rwa [zA3] at this
  have hbv : ∀ (k : Nat) (x : BL), rv[k]? = some x → st'.bx (1000 + k) = some (x.ren Ma) := fun k x hk => by
   have := Po hv k x hk
   rwa [zA3] at this
  have hreal : ∀ (k : Nat) (x : BL), rv[k]? = some x → (x.ren Ma).real = true := fun k x hk => by
   rw [Ku]; exact zA2.1 hrl x (lM hk)
  have hgl : ∀ k, k < lent.length → G2.loc (90000 + k) = G.loc (90000 + k) ∧ G2.hd (90000 + k) = G.hd (90000 + k) ∧ G2.more (90000 + k) = G.more (90000 + k) := fun k hk => by
   obtain ⟨e1, e2, e3⟩ := hs.lent (90000 + k) (Vh (by omega))
   exact ⟨e1.trans (hext.loc _ (hdomk k hk)), e2.trans (hext.hd _ (hdomk k hk)), e3.trans (hext.more _ (hdomk k hk))⟩
  refine ⟨hs.defers, (if h : us.toArray.size = 1 then us.toArray[0] else .tuple us.toArray), ?_, _, { S := G2.S, loc := fun b => G2.loc (Ma b), hd := fun b => G2.hd (Ma b), more := fun b => G2.more (Ma b) }, rfl, ?_, hs.S_0, ?_, ?_, ?_, ?_, ?_, ?_, ?_, ?_⟩
  ·unfold results
   refine Ai (a := us.toArray) (w1 := w') ?_ rfl
   rw [Array.mapM_eq_mapM_toList]
   simp only [Sem.run_map]
   exact congrArg (fun r => Result.andThen r fun a w' => Result.ok a.toArray w') h1
  ·have hb := hs.below
   exact ⟨hb.os, hb.tape, hb.output, hb.size, hb.drawn, fun k hk hl => hb.block k hk fun h => hl ((hlent k).1 h)⟩
  ·intro β hβ
   rcases hs.S_src β hβ with h | h
   ·exact .inl h
   ·exact .inr ⟨h, hs.S_lt β hβ⟩
  ·refine KE (f := Ma) ?_
   rw [← hr2]
   match xs, us, h2 with
   | [], [], _ => exact ⟨#[], rfl, rfl, fun j x h => by simp at h⟩
   | [x], [u], _ => exact h3 0 u x rfl rfl
   | x :: y :: xs, u :: u' :: us, hl2 =>
    refine ⟨(u :: u' :: us).toArray, by simp, by simpa using hl2, fun j z hj => ?_⟩
    have hlt := AF hj
    have hu : (u :: u' :: us)[j]? = some ((u :: u' :: us)[j]'(by rw [hl2]; exact hlt)) := by rw [zC0]
    have := h3 j _ z hu hj
    have hc : Av (u :: u' :: us).toArray j = (u :: u' :: us)[j]'(by rw [hl2]; exact hlt) := by
     unfold Av
     rw [List.getElem?_toArray, hu]; rfl
    rw [hc]; exact this
  ·intro k x hk
   refine KC (f := Ma) ?_
   rw [hoL k (AF hk)]
   exact hs.blk _ _ (hbl k x hk)
  ·intro k x hk
   refine KC (f := Ma) ?_
   rw [hoN k (AF hk)]
   exact hs.blk _ _ (hbv k x hk)
  ·intro k hk
   simp only [hoL k hk]
   exact hgl k hk
  ·intro k β hk hβ
   have hx : lent[k]? = some lent[k] := by simp [hk]
   have hβ : G2.has (90000 + k) β := by
    unfold Gh.has at hβ ⊢
    simp only [hoL k hk] at hβ
    exact hβ
   exact (hs.at_ok _ _ β (hbl k _ hx) (by rw [Ku]; exact (hpre' _ (lM hx)).2.2) hβ).2.2
  ·intro k β hk hβ
   have hx : rv[k]? = some rv[k] := by simp [hk]
   have hβ : G2.has (1000 + k) β := by
    unfold Gh.has at hβ ⊢
    simp only [hoN k hk] at hβ
    exact hβ
   have := hs.at_ok _ _ β (hbv k _ hx) (hreal k _ hx) hβ
   exact ⟨this.1.1 (KA (show 1000 + k < 3000 by omega) (by omega)), this.2⟩
  ·intro k l β hk hl hβ hβ'
   have hx : rv[k]? = some rv[k] := by simp [hk]
   have hx' : rv[l]? = some rv[l] := by simp [hl]
   have hβ : G2.has (1000 + k) β := by
    unfold Gh.has at hβ ⊢
    simp only [hoN k hk] at hβ
    exact hβ
   have hβ' : G2.has (1000 + l) β := by
    unfold Gh.has at hβ' ⊢
    simp only [hoN l hl] at hβ'
    exact hβ'
   have := hs.at_inj _ _ _ _ β (hbv k _ hx) (hbv l _ hx') (hreal k _ hx) (hreal l _ hx') hβ hβ'
   omega
 cases e with
 | normal => exact key hq
 | ret => exact key hq
 | _ => exact hq.elim
def nu (ls ns : List Nat) (b : Nat) : Nat := if Bv b then ls.getD (b - 90000) 0 else ns.getD b 0
def OU (f : Nat → Nat) : List Nat → List (BL × BL) → List (Nat × BL)
 | l :: ls, x :: xs => (l, x.1.ren f) :: OU f ls xs
 | _, _ => []
def JA (f : Nat → Nat) : List Nat → List (BL × BL) → List Bool → List (Nat × BL) → List (Nat × BL)
 | l :: ls, x :: xs, c :: cs, r => if c then (l, x.2.ren f) :: JA f ls xs cs r else JA f ls xs cs r
 | _, _, _, r => r
def newB (f : Nat → Nat) : List Nat → List BL → List (Nat × BL)
 | n :: ns, x :: xs => (n, x.ren f) :: newB f ns xs
 | _, _ => []
def UX : List (BL × BL) → List Bool → Prop
 | x :: xs, c :: cs => (c = false → x.1 = x.2) ∧ UX xs cs
 | [], [] => True
 | _, _ => False
theorem QZ {f : Nat → Nat} {bx : Nat → Option BL} : ∀ {ls : List Nat} {lent : List (BL × BL)}, ls.length = lent.length → Ik bx (OU f ls lent) → ∀ (k : Nat) (x : BL × BL), lent[k]? = some x → bx (nm ls k) = some (x.1.ren f)
 | [], [], _, _, k, y, hk => by simp at hk
 | l :: ls, x :: xs, hl, h, 0, y, hk => by simp at hk; subst hk; exact h.1
 | l :: ls, x :: xs, hl, h, k + 1, y, hk => by
  have := QZ (ls := ls) (lent := xs) (by simpa using hl) h.2 k y (by simpa using hk)
  simpa [nm] using this
theorem Ql {f : Nat → Nat} {bx : Nat → Option BL} {r : List (Nat × BL)} : ∀ {ls : List Nat} {lent : List (BL × BL)} {ch : List Bool}, ls.length = lent.length → ls.Nodup → UX lent ch → (∀ c, c ∈ ls → Bo bx r c = bx c) → Ik bx (OU f ls lent) →
  (∀ c, c ∉ ls → Bo bx (JA f ls lent ch r) c = Bo bx r c) ∧ ∀ (k : Nat) (x : BL × BL), lent[k]? = some x → Bo bx (JA f ls lent ch r) (nm ls k) = some (x.2.ren f)
 | [], [], [], _, _, _, _, _ => ⟨fun _ _ => rfl, fun k x h => by simp at h⟩
 | [], [], _ :: _, _, _, h, _, _ => h.elim
 | l :: ls, x :: xs, [], hl, hnd, hc, hr, hp => by cases hc
 | l :: ls, x :: xs, c :: cs, hl, hnd, hc, hr, hp => by
  have ih := Ql (f := f) (bx := bx) (r := r) (ls := ls) (lent := xs) (ch := cs) (by simpa using hl) (zG2.1 hnd).2 hc.2 (fun c hc => hr c (by simp [hc])) hp.2
  have hln : l ∉ ls := (zG2.1 hnd).1
  have hl0 : Bo bx (JA f ls xs cs r) l = bx l := (ih.1 l hln).trans (hr l (by simp))
  refine ⟨fun d hd => ?_, fun k y hk => ?_⟩
  ·simp only [zB6, not_or] at hd
   simp only [JA]
   split
   ·simp only [Bo]; rw [if_neg hd.1]; exact ih.1 d hd.2
   ·exact ih.1 d hd.2
  ·cases k with
   | zero =>
    simp at hk; subst hk
    simp only [JA, nm, zK7]
    split
    ·simp [Bo]
    ·rename_i hcc
     have hcf : c = false := by simpa using hcc
     rw [hl0, hp.1, hc.1 hcf]
   | succ k =>
    have hk' : xs[k]? = some y := by simpa using hk
    have hlt := AF hk'
    have hlt2 : k < ls.length := by simp at hl; omega
    have e : nm (l :: ls) (k + 1) = nm ls k := by simp [nm]
    rw [e]
    have hne : nm ls k ≠ l := fun h => hln (h ▸ Gu hlt2)
    simp only [JA]
    split
    ·simp only [Bo]; rw [if_neg hne]; exact ih.2 k y hk'
    ·exact ih.2 k y hk'
theorem OS {f : Nat → Nat} {bx : Nat → Option BL} : ∀ {ns : List Nat} {rv : List BL} {c : Nat}, ns.length = rv.length → ns.Nodup →
  (c ∉ ns → Bo bx (newB f ns rv) c = bx c) ∧ ∀ (k : Nat) (x : BL), rv[k]? = some x → Bo bx (newB f ns rv) (nm ns k) = some (x.ren f)
 | [], [], c, _, _ => ⟨fun _ => rfl, fun k x h => by simp at h⟩
 | n :: ns, x :: xs, c, hl, hnd => by
  have ih := OS (f := f) (bx := bx) (ns := ns) (rv := xs) (c := c) (by simpa using hl) (zG2.1 hnd).2
  refine ⟨fun hc => ?_, fun k y hk => ?_⟩
  ·simp only [zB6, not_or] at hc
   simp only [newB, Bo]
   rw [if_neg hc.1]; exact ih.1 hc.2
  ·cases k with
   | zero => simp at hk; subst hk; simp [newB, Bo, nm]
   | succ k =>
    have hk' : xs[k]? = some y := by simpa using hk
    have hlt := AF hk'
    have hlt2 : k < ns.length := by simp at hl; omega
    have : nm (n :: ns) (k + 1) = nm ns k := by simp [nm]
    rw [this]
    have hne : nm ns k ≠ n := fun e => (zG2.1 hnd).1 (e ▸ Gu hlt2)
    simp only [newB, Bo]
    rw [if_neg hne]
    exact (OS (f := f) (bx := bx) (ns := ns) (rv := xs) (c := c) (by simpa using hl) (zG2.1 hnd).2).2 k y hk'
theorem Ib {ls ns : List Nat} {k : Nat} (h : k < 1000) : nu ls ns (90000 + k) = nm ls k := by
 unfold nu nm; rw [JG h, if_pos rfl, show 90000 + k - 90000 = k from by omega]
theorem NT {ls ns : List Nat} {k : Nat} (h : k < 90000) : nu ls ns k = nm ns k := by
 unfold nu nm; rw [KA h (zB1 _), if_neg (by simp)]
theorem Pc {bx : Nat → Option BL} {c : Nat} : ∀ {wb : List (Nat × BL)}, (bx c).isSome = true → (Bo bx wb c).isSome = true
 | [], h => h
 | p :: ps, h => by
  simp only [Bo]; split
  ·rfl
  ·exact Pc h
section run
variable {dr : Bool} {Q : St → Prop} {r i : Nat} {st : St} {log : List (Nat × CO)} {o : Oper} {gs : List (Operand × D)}
theorem Wz {f s : Nat} {xs : List Operand} {ds0 ds : List D} {lent : List (BL × BL)} {rv : List BL} {res : D} {ts : Array TypeId} (ls ns : List Nat) (ch : List Bool) (hc : Ex P f ds lent rv res) (hat : At st.env ops i X.n (.call ⟨.value (.func f), xs.toArray, ts⟩) s gs)
  (hf : AA P f = true) (hl : xs.length = ds0.length) (hds : ds0.map D.nrm = ds.map (D.ren (nu ls ns)))
  (hll : ls.length = lent.length) (hln : ls.Nodup) (hns : ns.length = rv.length) (hndl : KD ns) (hch : UX lent ch)
  (hlim : (zH7 lent.length 1000 && zH7 rv.length 1000) = true) (hre : (lent.all fun x => x.1.real && x.2.real) = true)
  (hnm : (Iy lent.length rv.length res.names && (lent.all fun x => Iy lent.length rv.length x.2.names) && rv.all fun x => Iy lent.length rv.length x.names) = true) : LR P X ops i ⟨gs ++ HW xs ds0, OU (nu ls ns) ls lent, some s, some (res.ren (nu ls ns)), JA (nu ls ns) ls lent ch (newB (nu ls ns) ns rv), ns⟩ := by
 obtain ⟨o, ho, hop, hd, hn, hg, hgp⟩ := hat.out
 have hnd := hndl.1
 rw [zA5] at hlim
 have hlim1 := zD0 hlim.1
 have hlim2 := zD0 hlim.2
 rw [zA5, zA5] at hnm
 obtain ⟨⟨hnmR, hnmL⟩, hnmV⟩ := hnm
 have hre' : ∀ x, x ∈ lent → x.1.real = true ∧ x.2.real = true := fun x hx => by
  have := zA2.1 hre x hx
  rw [zA5] at this
  exact this
 intro st a w K Q' hs hpre hK
 obtain ⟨G, hs⟩ := hs
 have hx := (Am.1 hpre.r).2
 have hw := hs.wanted hg (Am.1 hpre.r).1
 have hnew := hpre.n
 have hlb := hpre.b
 have hnew' : ∀ c, c ∈ ns → st.bx c = none := by
  have : ∀ {l : List Nat}, M0 st.bx l → ∀ c, c ∈ l → st.bx c = none := by
   intro l
   induction l with
   | nil => intro _ c hc; cases hc
   | cons b l ih =>
    intro h c hc
    rcases zB6.1 hc with e | e
    ·subst e; exact h.1
    ·exact ih h.2 c e
  exact this hnew
 have hget := fun k x hk => QZ (f := nu ls ns) hll hlb k x hk
 have hlk : ∀ k, k < lent.length → st.bx (nm ls k) = some (lent[k]!.1.ren (nu ls ns)) ∧ (lent[k]!.1.ren (nu ls ns)).real = true := fun k hk => by
  have hx0 : lent[k]? = some lent[k]! := by simp [hk]
  exact ⟨hget k _ hx0, by rw [Ku]; exact (hre' _ (lM hx0)).1⟩
 have hlsns : ∀ c, c ∈ ls → c ∉ ns := fun c hc hm => by
  obtain ⟨k, hk, e⟩ := OZ hc
  have := (hlk k (by omega)).1
  rw [e, hnew' c hm] at this; cases this
 unfold wpOp
 rw [ho]
 simp only [hw, if_true]
 refine .inl ?_
 unfold Oper.wp
 have hrun : (execOp a.eval o).run P w = .ok (.enter f (xs.toArray.map a.eval)) w := by
  simp only [execOp, hop]
  exact Lx hf rfl
 rw [hrun]
 show Calls P f (xs.toArray.map a.eval) w _
 let Gc : Gh := { S := G.S, loc := fun b => G.loc (nu ls ns b), hd := fun b => G.hd (nu ls ns b), more := fun b => G.more (nu ls ns b) }
 have hGc : ∀ k β, k < lent.length → (Gc.has (90000 + k) β ↔ G.has (nm ls k) β) := fun k β hk => by
  unfold Gh.has; simp only [Gc]; rw [Ib (by omega)]
 refine (hc w Gc (xs.toArray.map a.eval) hs.S_lt hs.gok ?_ ?_ ?_ ?_ ?_).mono ?_
 ·intro k x hk
  refine KC (f := nu ls ns) ?_
  rw [Ib (by have := AF hk; omega)]
  exact hs.blk _ _ (hget k x hk)
 ·intro k β hk hβ
  have h1 := hlk k hk
  exact (hs.at_ok _ _ β h1.1 h1.2 ((hGc k β hk).1 hβ)).2
 ·intro k l β hk hl' hβ hβ'
  have h1 := hlk k hk
  have h2 := hlk l hl'
  have := hs.at_inj _ _ _ _ β h1.1 h2.1 h1.2 h2.2 ((hGc k β hk).1 hβ) ((hGc l β hl').1 hβ')
  exact Rw hln (by omega) (by omega) this
 ·have h1 := congrArg zF8 hds
  simp at h1
  simp; omega
 ·intro j d hj
  have hj2 : (ds.map (D.ren (nu ls ns)))[j]? = some (d.ren (nu ls ns)) := by rw [zA1, hj]; rfl
  rw [← hds, zA1] at hj2
  obtain ⟨d0, hj0, hd0⟩ : ∃ d0, ds0[j]? = some d0 ∧ d0.nrm = d.ren (nu ls ns) := by
   cases hx0 : ds0[j]? with
   | none => rw [hx0] at hj2; cases hj2
   | some d0 => rw [hx0] at hj2; exact ⟨d0, rfl, by simpa using hj2⟩
  have hlt := AF hj0
  have hxj : xs[j]? = some (xs[j]'(by omega)) := by simp [show j < xs.length from by omega]
  have hop' := Kt hl hx j _ d0 hxj hj0
  have hcell : Av (xs.toArray.map a.eval) j = a.eval (xs[j]'(by omega)) := by simp [Av, show j < xs.length from by omega]
  rw [hcell]
  refine KE (f := nu ls ns) ?_
  rw [← hd0]
  exact (hs.opd hop').nrm
 ·rintro e w' ⟨v, G', rfl, hbel, hS1, hS2, hres', hpost, hvec, hsame, hlS, hvat, hvinj⟩
  show K (a.put o.dst v) w'
  rw [hd]
  let G2 : Gh := { S := G'.S, loc := fun c => if c ∈ ns then G'.loc (ns.idxOf c) else G.loc c, hd := fun c => if c ∈ ns then G'.hd (ns.idxOf c) else G.hd c, more := fun c => if c ∈ ns then G'.more (ns.idxOf c) else G.more c }
  have hidx : ∀ k, k < ns.length → ns.idxOf (nm ns k) = k := by
   intro k hk
   have hm := Gu hk
   have h1 : ns.idxOf (nm ns k) < ns.length := List.idxOf_lt_length_of_mem hm
   refine Rw hnd h1 hk ?_
   have h2 := List.getElem_idxOf h1
   show ns.getD (ns.idxOf (nm ns k)) 0 = nm ns k
   rw [lD, zC0 h1, zC6, h2]
  have hvia : G'.via G2 (nu ls ns) (fun b => JN lent.length rv.length b = true) := by
   have key : ∀ b, JN lent.length rv.length b = true → (∃ k, k < lent.length ∧ b = 90000 + k) ∨ (b < rv.length ∧ Bv b = false) := by
    intro b hb
    unfold JN at hb
    split at hb
    ·rename_i h
     obtain ⟨k, _, rfl⟩ := KG h
     rw [zI1] at hb
     exact .inl ⟨k, by omega, rfl⟩
    ·rename_i h
     rw [zI1] at hb
     exact .inr ⟨hb, by simpa using h⟩
   refine ⟨fun β h => h, fun b hb => ?_, fun b hb => ?_, fun b hb => ?_⟩
   ·rcases key b hb with ⟨k, hk, rfl⟩ | ⟨hb1, hb2⟩
    ·rw [Ib (by omega)]
     have hni : nm ls k ∉ ns := hlsns _ (Gu (by omega))
     simp only [G2]; rw [if_neg hni, (hsame k hk).1]; simp only [Gc]; rw [Ib (by omega)]
    ·rw [NT (by omega)]
     simp only [G2]; rw [if_pos (Gu (by omega)), hidx b (by omega)]
   ·rcases key b hb with ⟨k, hk, rfl⟩ | ⟨hb1, hb2⟩
    ·rw [Ib (by omega)]
     have hni : nm ls k ∉ ns := hlsns _ (Gu (by omega))
     simp only [G2]; rw [if_neg hni, (hsame k hk).2.1]; simp only [Gc]; rw [Ib (by omega)]
    ·rw [NT (by omega)]
     simp only [G2]; rw [if_pos (Gu (by omega)), hidx b (by omega)]
   ·rcases key b hb with ⟨k, hk, rfl⟩ | ⟨hb1, hb2⟩
    ·rw [Ib (by omega)]
     have hni : nm ls k ∉ ns := hlsns _ (Gu (by omega))
     simp only [G2]; rw [if_neg hni, (hsame k hk).2.2]; simp only [Gc]; rw [Ib (by omega)]
    ·rw [NT (by omega)]
     simp only [G2]; rw [if_pos (Gu (by omega)), hidx b (by omega)]
  have hext : G.ext G2 (fun b => (st.bx b).isSome = true) := by
   have : ∀ b, (st.bx b).isSome = true → b ∉ ns := fun b hb hm => by rw [hnew' b hm] at hb; cases hb
   exact ⟨fun β h => hS1 β h, fun b hb => by simp only [G2]; rw [if_neg (this b hb)], fun b hb => by simp only [G2]; rw [if_neg (this b hb)], fun b hb => by simp only [G2]; rw [if_neg (this b hb)]⟩
  have hnotL : ∀ β, U7 Gc lent.length β → ∃ k, k < lent.length ∧ G.has (nm ls k) β := fun β ⟨k, hk, hb⟩ => ⟨k, hk, (hGc k β hk).1 hb⟩
  have hwS : ∀ β, G.S β → w'.heap[β]? = w.heap[β]? := fun β hβ => hbel.block β (hs.S_lt β hβ) fun h => by
   obtain ⟨k, hk, hg⟩ := hnotL β h
   exact (hs.at_ok _ _ β (hlk k hk).1 (hlk k hk).2 hg).2.2 hβ
  have hsz := hbel.size
  have hle := hs.below.size
  have hng := fun c => OS (f := nu ls ns) (bx := st.bx) (ns := ns) (rv := rv) (c := c) hns hnd
  have hbg := Ql (f := nu ls ns) (bx := st.bx) (r := newB (nu ls ns) ns rv) (ls := ls) (lent := lent) (ch := ch) hll hln hch (fun c hc => (hng c).1 (hlsns c hc)) hlb
  have hblk : ∀ c k, Bo st.bx (JA (nu ls ns) ls lent ch (newB (nu ls ns) ns rv)) c = some k →
    (c ∉ ns ∧ c ∉ ls ∧ st.bx c = some k) ∨ (∃ m x, m < ns.length ∧ nm ns m = c ∧ rv[m]? = some x ∧ k = x.ren (nu ls ns)) ∨ (∃ m x, m < ls.length ∧ nm ls m = c ∧ lent[m]? = some x ∧ k = x.2.ren (nu ls ns)) := by
   intro c k hc
   by_cases hm : c ∈ ls
   ·obtain ⟨m, hm1, hm2⟩ := OZ hm
    have hlx : lent[m]? = some (lent[m]'(by omega)) := by simp [show m < lent.length from by omega]
    have := hbg.2 m _ hlx
    rw [hm2, hc] at this
    exact .inr (.inr ⟨m, _, hm1, hm2, hlx, by simpa using this⟩)
   ·rw [hbg.1 c hm] at hc
    by_cases hm2 : c ∈ ns
    ·obtain ⟨m, hm1, hm3⟩ := OZ hm2
     have hrx : rv[m]? = some (rv[m]'(by omega)) := by simp [show m < rv.length from by omega]
     have := (hng c).2 m _ hrx
     rw [hm3, hc] at this
     exact .inr (.inl ⟨m, _, hm1, hm3, hrx, by simpa using this⟩)
    ·rw [(hng c).1 hm2] at hc; exact .inl ⟨hm2, hm, hc⟩
  have hdom : ∀ b, JN lent.length rv.length b = true → (Bo st.bx (JA (nu ls ns) ls lent ch (newB (nu ls ns) ns rv)) (nu ls ns b)).isSome = true := by
   intro b hb
   unfold JN at hb
   split at hb
   ·rename_i h
    obtain ⟨k, _, rfl⟩ := KG h
    rw [zI1] at hb
    have hk : k < lent.length := by omega
    rw [Ib (by omega), hbg.2 k _ (show lent[k]? = some lent[k] by simp [hk])]; rfl
   ·rename_i h
    rw [zI1] at hb
    have hni : nm ns b ∉ ls := fun hm => hlsns _ hm (Gu (by omega))
    rw [NT (by omega), hbg.1 _ hni, (hng (nm ns b)).2 b _ (show rv[b]? = some rv[b] by simp [hb])]; rfl
  have hren : ∀ l : List Nat, Iy lent.length rv.length l = true → ∀ b, b ∈ l → JN lent.length rv.length b = true := fun l h b hb => zA2.1 h b hb
  have hrenB : ∀ (k : BL) b, b ∈ (k.ren (nu ls ns)).names → ∃ b0, b0 ∈ k.names ∧ b = nu ls ns b0 := by
   intro k b hb
   cases k with
   | box cs =>
    obtain ⟨c, hc, hb⟩ := Bn.1 hb
    obtain ⟨c0, h0, rfl⟩ := zB5.1 hc
    obtain ⟨b0, h1, h2⟩ := LM hb
    exact ⟨b0, Bn.2 ⟨c0, h0, h1⟩, h2⟩
   | vec e rows => cases hb
   | mp es => cases hb
   | dvec e cols rs => cases hb
   | pvec n e cols rs => cases hb
   | hol e cols i0 k0 c rs => exact ⟨c, by simp [BL.names], by simpa [BL.ren, BL.names] using hb⟩
   | gone => cases hb
  have hhasN : ∀ m β, m < ns.length → (G2.has (nm ns m) β ↔ G'.has m β) := fun m β hm => by
   have hmd : JN lent.length rv.length m = true := by
    unfold JN; rw [KA (show m < 90000 by omega) (zB1 _), if_neg (by simp), zI1]; omega
   have := hvia.has (β := β) hmd
   rwa [NT (by omega)] at this
  have key : Dd P X G2 ⟨st.env, Bo st.bx (JA (nu ls ns) ls lent ch (newB (nu ls ns) ns rv))⟩ a w' := by
   refine hs.frame (fun c hc => Pc hc) hext hwS ?_ ?_ ?_ ?_ ?_ ?_ (fun b hb => by
    have : b ∉ ns := fun hm => by rw [hndl.2 b hm] at hb; cases hb
    simp only [G2]; rw [if_neg this, if_neg this, if_neg this]; exact ⟨rfl, rfl, rfl⟩)
   ·intro c k hc
    rcases hblk c k hc with ⟨_, h0, h1⟩ | ⟨m, x, h1, h2, h3, h4⟩ | ⟨m, x, h1, h2, h3, h4⟩
    ·refine .inl ⟨h1, fun β hr hβ => hbel.block β (hs.at_ok c k β h1 hr hβ).2.1 fun hL => ?_⟩
     obtain ⟨j, hj, hg⟩ := hnotL β hL
     exact h0 ((hs.at_inj _ _ _ _ β h1 (hlk j hj).1 hr (hlk j hj).2 hβ hg) ▸ Gu (by omega))
    ·subst h4
     have hmd : JN lent.length rv.length m = true := by
      unfold JN; rw [KA (show m < 90000 by omega) (zB1 _), if_neg (by simp), zI1]; omega
     have hxn := hren _ (zA2.1 hnmV x (lM h3))
     refine .inr ⟨?_, fun c' hc' => ?_⟩
     ·have := (hvec m x h3).ren hvia hmd hxn
      rwa [NT (by omega), h2] at this
     ·obtain ⟨b0, hb0, rfl⟩ := hrenB x c' hc'
      exact hdom b0 (hxn b0 hb0)
    ·subst h4
     have hmd : JN lent.length rv.length (90000 + m) = true := by
      unfold JN; rw [JG (by omega), if_pos rfl, zI1]; omega
     have hxn := hren _ (zA2.1 hnmL x (lM h3))
     refine .inr ⟨?_, fun c' hc' => ?_⟩
     ·have := (hpost m x h3).ren hvia hmd hxn
      rwa [Ib (by omega), h2] at this
     ·obtain ⟨b0, hb0, rfl⟩ := hrenB x.2 c' hc'
      exact hdom b0 (hxn b0 hb0)
   ·intro c k β hc hr hβ
    rcases hblk c k hc with ⟨h0, _, h1⟩ | ⟨m, x, h1, h2, h3, h4⟩ | ⟨m, x, h1, h2, h3, h4⟩
    ·have hβ := (hext.has (by rw [h1]; rfl)).1 hβ
     have := hs.at_ok c k β h1 hr hβ
     refine ⟨this.1, by omega, fun h => ?_⟩
     rcases hS2 β h with h | h
     ·exact this.2.2 h
     ·omega
    ·rw [← h2, hhasN m β h1] at hβ
     have := hvat m β (by omega) hβ
     exact ⟨.new (by omega), this.2.1, this.2.2⟩
    ·subst h2
     have h5 := hlk m (by omega)
     have hβ := (hext.has (by rw [h5.1]; rfl)).1 hβ
     have := hs.at_ok _ _ β h5.1 h5.2 hβ
     refine ⟨this.1, by omega, hlS m β (by omega) ?_⟩
     have h6 := hsame m (by omega)
     unfold Gh.has at hβ ⊢
     rw [h6.1, h6.2.2]
     simp only [Gc]; rw [Ib (by omega)]; exact hβ
   ·intro c c' k k' β hc hc' hr hr' hβ hβ'
    have old : ∀ c k, Bo st.bx (JA (nu ls ns) ls lent ch (newB (nu ls ns) ns rv)) c = some k → k.real = true → G2.has c β → (∃ k0, st.bx c = some k0 ∧ k0.real = true ∧ G.has c β) ∨ ∃ m, m < ns.length ∧ nm ns m = c ∧ G'.has m β := by
     intro c k hc hr hβ
     rcases hblk c k hc with ⟨h0, _, h1⟩ | ⟨m, x, h1, h2, h3, h4⟩ | ⟨m, x, h1, h2, h3, h4⟩
     ·exact .inl ⟨k, h1, hr, (hext.has (by rw [h1]; rfl)).1 hβ⟩
     ·rw [← h2, hhasN m β h1] at hβ
      exact .inr ⟨m, h1, h2, hβ⟩
     ·subst h2
      have h5 := hlk m (by omega)
      exact .inl ⟨_, h5.1, h5.2, (hext.has (by rw [h5.1]; rfl)).1 hβ⟩
    rcases old c k hc hr hβ with ⟨k0, h1, h2, h3⟩ | ⟨m, h1, h2, h3⟩ <;> rcases old c' k' hc' hr' hβ' with ⟨k0', h1', h2', h3'⟩ | ⟨m', h1', h2', h3'⟩
    ·exact hs.at_inj c c' k0 k0' β h1 h1' h2 h2' h3 h3'
    ·have h5 := hvat m' β (by omega) h3'
     have h6 := (hs.at_ok c k0 β h1 h2 h3).2.1
     omega
    ·have h5 := hvat m β (by omega) h3
     have h6 := (hs.at_ok c' k0' β h1' h2' h3').2.1
     omega
    ·have := hvinj m m' β (by omega) (by omega) h3 h3'
     rw [← h2, ← h2', this]
   ·intro β h
    rcases hS2 β h with h | h
    ·have := hs.S_lt β h; omega
    ·exact h.2
   ·intro β h
    rcases hS2 β h with h | h
    ·exact hs.S_src β h
    ·exact .inr (by omega)
   ·refine hs.below.trans ⟨hbel.os, hbel.tape, hbel.output, hbel.size, hbel.drawn, fun k hk hnl => hbel.block k (by omega) fun hL => ?_⟩
    obtain ⟨j, hj, hg⟩ := hnotL k hL
    rcases (hs.at_ok _ _ k (hlk j hj).1 (hlk j hj).2 hg).1.2 with h | h
    ·omega
    ·exact hnl h
  refine hK _ _ ⟨G2, key.put (some s) (some (res.ren (nu ls ns))) v (by intro t e; cases e; exact hn) ?_⟩
  rintro d ⟨⟩
  refine ⟨hres'.ren hvia (hren _ hnmR), fun b hb => ?_⟩
  obtain ⟨b0, h1, h2⟩ := Lu hb
  rw [h2]
  exact hdom b0 (hren _ hnmR b0 h1)
theorem LT {f s : Nat} {xs : List Operand} {ds0 ds : List D} {lent : List (BL × BL)} {rv : List BL} {res : D} {ts : Array TypeId} (ls ns : List Nat) (ch : List Bool) (hc : Ex P f ds lent rv res) (hat : At st.env ops i X.n (.call ⟨.value (.func f), xs.toArray, ts⟩) s gs)
  (hf : AA P f = true) (hl : xs.length = ds0.length) (hx : Ge st.env (HW xs ds0)) (hds : ds0.map D.nrm = ds.map (D.ren (nu ls ns)))
  (hll : ls.length = lent.length) (hln : ls.Nodup) (hlb : Ik st.bx (OU (nu ls ns) ls lent)) (hns : ns.length = rv.length) (hndl : KD ns) (hnew : M0 st.bx ns) (hch : UX lent ch)
  (hlim : (zH7 lent.length 1000 && zH7 rv.length 1000) = true) (hre : (lent.all fun x => x.1.real && x.2.real) = true)
  (hnm : (Iy lent.length rv.length res.names && (lent.all fun x => Iy lent.length rv.length x.2.names) && rv.all fun x => Iy lent.length rv.length x.names) = true)
  (next : Bc P X ops dr Q r (i + 1) (CO.upd ⟨gs ++ HW xs ds0, OU (nu ls ns) ls lent, some s, some (res.ren (nu ls ns)), JA (nu ls ns) ls lent ch (newB (nu ls ns) ns rv), ns⟩ st) ((i, ⟨gs ++ HW xs ds0, OU (nu ls ns) ls lent, some s, some (res.ren (nu ls ns)), JA (nu ls ns) ls lent ch (newB (nu ls ns) ns rv), ns⟩) :: log)) : Bc P X ops dr Q (r + 1) i st log := by
 obtain ⟨o, ho, hop, hd, hn, hg, hgp⟩ := hat.out
 exact Bc.step next ⟨Am.2 ⟨hgp, hx⟩, hlb, hnew⟩ (Wz ls ns ch hc hat hf hl hds hll hln hns hndl hch hlim hre hnm)
end run
end Go.Lift
namespace Go.Lift
open List renaming mem_of_getElem? → lM
open Go.RowKit
variable {P : Program} {X : IX} {ops : Array Oper}
def Ji {α : Type} (xs : List α) (q : Nat) (ys : List α) : List α := xs.take q ++ ys ++ xs.drop (q + ys.length)
theorem JO {α : Type} {xs ys : List α} {q : Nat} (h : q + ys.length ≤ xs.length) : (Ji xs q ys).length = xs.length := by
 unfold Ji; simp; omega
theorem Up {α : Type} {xs ys : List α} {q : Nat} (h : q + ys.length ≤ xs.length) (i : Nat) : (Ji xs q ys)[i]? = if q ≤ i ∧ i < q + ys.length then ys[i - q]? else xs[i]? := by
 unfold Ji
 by_cases h1 : i < q
 ·rw [if_neg (by omega), zD7, zC8 (by simp; omega), zC9 h1]
 ·by_cases h2 : i < q + ys.length
  ·rw [if_pos (by omega), zC8 (by simp; omega), zB9 (by simp; omega)]
   congr 1; simp; omega
  ·rw [if_neg (by omega), zB9 (by simp; omega), zF4]
   congr 1; simp; omega
theorem UR {α β : Type} (f : α → β) (xs ys : List α) (q : Nat) : Ji (xs.map f) q (ys.map f) = (Ji xs q ys).map f := by
 unfold Ji; simp
inductive Ok : D → Nat → Nat → List (List T) → Nat → Nat → Prop where
 | own (b e : Nat) (rows : List (List T)) : Ok (.e (.one (.own b))) b e rows 0 rows.length
 | view (b e : Nat) (rows : List (List T)) (lo len : Nat) (h : lo + len ≤ rows.length) : Ok (.e (.one (.view b e lo len))) b e rows lo len
inductive P2 : D → List (Nat × BL) → Nat → List (List T) → Prop where
 | of {d : D} {rb : List (Nat × BL)} {e : Nat} {rows : List (List T)} (h : Z6 d rb e rows) : P2 d rb e rows
 | view (b e : Nat) (rows : List (List T)) (lo len : Nat) (h : lo + len ≤ rows.length) : P2 (.e (.one (.view b e lo len))) [(b, .vec e rows)] e ((rows.drop lo).take len)
theorem QP (q : Addr) : q.add 0 = q := by unfold Addr.add; simp
theorem Pu {G : Gh} {w : World} {b e : Nat} {rows : List (List T)} (h : Em P w G b (.vec e rows)) : ∃ a cap, G.hd b = .slice a rows.length cap ∧ rows.length ≤ cap ∧
  (0 < cap → ∃ β arr el, a = some ⟨β, 0, none⟩ ∧ G.loc b = some β ∧ w.heap[β]? = some (.cells arr el (0, 0)) ∧ arr.size = cap * e ∧ EA w G.S arr e 0 rows) := by
 rcases h with ⟨a, h1, h2, _⟩ | ⟨β, cap, arr, el, h0, h1, h2, h3, h4, h5, h6⟩
 ·subst h2; exact ⟨a, 0, h1, zB1 _, fun h => by cases h⟩
 ·exact ⟨_, cap, h1, h3, fun _ => ⟨β, arr, el, rfl, h0, h2, h4, by rw [h4, zA3]; exact zA4 e h3, h5, fun i row j t hi hj => by rw [zA3]; exact h6 i row j t hi hj⟩⟩
section run
variable {dr : Bool} {Q : St → Prop} {r i : Nat} {st : St} {log : List (Nat × CO)} {o : Oper} {gs : List (Operand × D)}
theorem Dd.dstV {G : Gh} {a : Act} {w : World} (hs : Dd P X G st a w) {x : Operand} {d : D} {b e lo len : Nat} {rows : List (List T)} (hx : Lift.opd st.env x = some d) (h : Ok d b e rows lo len) (hb : st.bx b = some (.vec e rows)) :
  ∃ p cap', a.eval x = .slice p len cap' ∧ rows.length - lo ≤ cap' ∧ lo + len ≤ rows.length ∧
   (lo < rows.length → ∃ β cap arr el, G.loc b = some β ∧ G.hd b = .slice (some ⟨β, 0, none⟩) rows.length cap ∧ rows.length ≤ cap ∧ p = some ⟨β, lo * e, none⟩ ∧ w.heap[β]? = some (.cells arr el (0, 0)) ∧ arr.size = cap * e ∧ EA w G.S arr e 0 rows) := by
 obtain ⟨a0, cap, h1, h2, h3⟩ := Pu (hs.blk b _ hb)
 have hR := hs.opd hx
 cases h with
 | own =>
  obtain ⟨hR, _⟩ : ER P w G (a.eval x) (.own b) := hR
  refine ⟨a0, cap, hR.trans h1, by omega, by omega, fun hlt => ?_⟩
  obtain ⟨β, arr, el, g1, g2, g3, g4, g5⟩ := h3 (by omega)
  subst g1
  exact ⟨β, cap, arr, el, g2, h1, h2, by simp, g3, g4, g5⟩
 | view _ _ _ _ _ h =>
  obtain ⟨a1, n1, cap1, p, k1, k2, k3, k4⟩ : ER P w G (a.eval x) (.view b e lo len) := hR
  rw [h1] at k1
  cases k1
  refine ⟨p, cap - lo, k3, by omega, h, fun hlt => ?_⟩
  obtain ⟨β, arr, el, g1, g2, g3, g4, g5⟩ := h3 (by omega)
  subst g1
  refine ⟨β, cap, arr, el, g2, h1, h2, ?_, g3, g4, g5⟩
  rw [k4 (by omega)]
  simp [Addr.add_mk]
theorem Dd.srcW {G : Gh} {a : Act} {w : World} (hs : Dd P X G st a w) {x : Operand} {d : D} {rb : List (Nat × BL)} {e : Nat} {rows : List (List T)} (hx : Lift.opd st.env x = some d) (h : P2 d rb e rows) (hb : Ik st.bx rb) :
  ∃ p cap, a.eval x = .slice p rows.length cap ∧ (rows = [] ∨ ∃ β off arr el fz, p = some ⟨β, off, none⟩ ∧ w.heap[β]? = some (.cells arr el fz) ∧ EA w G.S arr e off rows) := by
 cases h with
 | of h =>
  have hR := hs.opd hx
  cases h with
  | own b e rows =>
   obtain ⟨hR, _⟩ : ER P w G (a.eval x) (.own b) := hR
   obtain ⟨a0, cap, h1, h2, h3⟩ := Pu (hs.blk b _ hb.1)
   refine ⟨a0, cap, hR.trans h1, ?_⟩
   cases rows with
   | nil => exact .inl rfl
   | cons y ys =>
    obtain ⟨β, arr, el, g1, g2, g3, g4, g5⟩ := h3 (by simp at h2; omega)
    exact .inr ⟨β, 0, arr, el, (0, 0), g1, g3, g5⟩
  | sl e rows hrow =>
   have hR : DU w G.S (a.eval x) (.sl rows) := hR
   generalize a.eval x = v at hR
   cases hR with
   | nil a' cap => exact ⟨_, _, rfl, .inl rfl⟩
   | sl β off cap e' arr el' fz rows h1 h2 h3 h4 h5 h6 =>
    refine ⟨_, _, rfl, ?_⟩
    cases rows with
    | nil => exact .inl rfl
    | cons r0 rs =>
     have he : e' = e := by rw [← hrow 0 r0 rfl]; exact (h5 0 r0 rfl).symm
     subst he
     exact .inr ⟨β, off, arr, el', fz, rfl, h2, h4, h5, h6⟩
  | nil e =>
   have hR : DU w G.S (a.eval x) .nil0 := hR
   generalize a.eval x = v at hR
   cases hR with
   | nil0 a' => exact ⟨_, _, rfl, .inl rfl⟩
 | view b _ rows lo len h =>
  obtain ⟨p, cap', h1, h2, h3, h4⟩ := hs.dstV hx (.view b e rows lo len h) hb.1
  have hlen : ((rows.drop lo).take len).length = len := by simp; omega
  refine ⟨p, cap', by rw [hlen]; exact h1, ?_⟩
  by_cases hz : len = 0
  ·exact .inl (by rw [hz, List.take_zero])
  ·obtain ⟨β, cap, arr, el, g1, g2, g3, g4, g5, g6, g7⟩ := h4 (by omega)
   refine .inr ⟨β, lo * e, arr, el, (0, 0), g4, g5, ?_, ?_, ?_⟩
   ·rw [hlen, g6, ← zE4]; exact zA4 e (by omega)
   ·intro i row hi
    have := AF hi
    rw [hlen] at this
    rw [zC9 this, zF4] at hi
    exact g7.2.1 _ row hi
   ·intro i row j t hi hj
    have := AF hi
    rw [hlen] at this
    rw [zC9 this, zF4] at hi
    have := g7.2.2 _ row j t hi hj
    rwa [zA3, zE4] at this
theorem EA.take {w : World} {S : Nat → Prop} {arr : Array Value} {e off n : Nat} {rows : List (List T)} (h : EA w S arr e off rows) : EA w S arr e off (rows.take n) := by
 refine ⟨?_, ?_, ?_⟩
 ·have := h.1
  have h2 : (rows.take n).length * e ≤ rows.length * e := zA4 e (by simp; omega)
  omega
 ·intro i row hi
  have := AF hi
  simp at this
  rw [zC9 (by omega)] at hi
  exact h.2.1 i row hi
 ·intro i row j t hi hj
  have := AF hi
  simp at this
  rw [zC9 (by omega)] at hi
  exact h.2.2 i row j t hi hj
theorem Rr {w : World} {S : Nat → Prop} {p : Option Addr} {len cap e n : Nat} {rows : List (List T)} (hn : n ≤ rows.length) (h : rows = [] ∨ ∃ β off arr el fz, p = some ⟨β, off, none⟩ ∧ w.heap[β]? = some (.cells arr el fz) ∧ EA w S arr e off rows) :
  ∃ news, (Builtin.firstCells e n (.slice p len cap)).run P w = .ok news w ∧ EA w S news e 0 (rows.take n) ∧ news.size = n * e := by
 rcases h with h | ⟨β, off, arr, el, fz, h1, h2, h3⟩
 ·subst h
  have : n = 0 := by simpa using hn
  subst this
  obtain ⟨news, k1, k2, k3⟩ := E7 (P := P) (w := w) (a := p) (len := len) (cap := cap) (e := e) (S := S)
  exact ⟨news, k1 w rfl, by simpa using k2, by simpa using k3⟩
 ·subst h1
  have hl : (rows.take n).length = n := by simp; omega
  obtain ⟨news, k1, k2, k3⟩ := Ih (P := P) (len := len) (cap := cap) h2 (h3.take (n := n))
  rw [hl] at k1 k3
  exact ⟨news, k1 w rfl, k2, k3⟩
theorem Sx {G : Gh} {w : World} {b e β cap q : Nat} {rows rows2 : List (List T)} {arr news : Array Value} {el : TypeId} (hlt : β < w.heap.size) (hnS : ¬ G.S β) (h0 : G.loc b = some β) (h1 : G.hd b = .slice (some ⟨β, 0, none⟩) rows.length cap) (h3 : rows.length ≤ cap) (h4 : arr.size = cap * e) (h5 : EA w G.S arr e 0 rows)
  (hn : EA w G.S news e 0 rows2) (hns : news.size = rows2.length * e) (hq : q + rows2.length ≤ rows.length) :
  Em P (Gm w β (.cells (FB arr (q * e) news.toList) el (0, 0))) G b (.vec e (Ji rows q rows2)) := by
 have hle : q * e + rows2.length * e ≤ cap * e := by rw [← zE4]; exact zA4 e (by omega)
 have hS : ∀ γ, G.S γ → (Gm w β (.cells (FB arr (q * e) news.toList) el (0, 0))).heap[γ]? = w.heap[γ]? := fun γ hγ => by
  rw [DX, if_neg (fun (h : γ = β ∧ β < w.heap.size) => hnS (h.1 ▸ hγ))]
 have hrl : ∀ (i : Nat) (row : List T), (Ji rows q rows2)[i]? = some row → row.length = e := by
  intro i row hi
  rw [Up hq] at hi
  split at hi
  ·exact hn.2.1 _ row hi
  ·exact h5.2.1 _ row hi
 refine .inr ⟨β, cap, FB arr (q * e) news.toList, el, h0, by rw [JO hq]; exact h1, by rw [DX, if_pos ⟨rfl, hlt⟩], by rw [JO hq]; exact h3, by rw [GG, h4], hrl, ?_⟩
 intro i row j t hi hj
 have hj' := AF hj
 have hre := hrl i row hi
 rw [Up hq] at hi
 rw [Fj _ _ _ _ (by simp; omega)]
 simp only [zH3, hns]
 split at hi
 ·rename_i hin
  have hle2 : (i - q) * e + e ≤ rows2.length * e := by rw [← zC1]; exact zA4 e (by omega)
  have hsp : i * e = q * e + (i - q) * e := by rw [← zE4]; congr 1; omega
  rw [if_pos (by omega)]
  have := hn.2.2 _ row j t hi hj
  rw [zA3] at this
  have h6 : (news.toList[i * e + j - q * e]?).getD undef = Av news ((i - q) * e + j) := by
   rw [show i * e + j - q * e = (i - q) * e + j from by omega]
   unfold Av; simp
  rw [h6]
  exact this.mono hS fun _ h => h
 ·rename_i hin
  rw [if_neg]
  ·have := h5.2.2 _ row j t hi hj
   rw [zA3] at this
   exact this.mono hS fun _ h => h
  ·rintro ⟨k1, k2⟩
   by_cases hiq : i < q
   ·have : i * e + e ≤ q * e := by rw [← zC1]; exact zA4 e hiq
    omega
   ·have : q * e + rows2.length * e ≤ i * e := by rw [← zE4]; exact zA4 e (by omega)
    omega
theorem Xq {x : Operand} {t el s e l h b lo0 len : Nat} {lo hi : Option Operand} {rl rh : List (Operand × D)} {rows : List (List T)} {d : D} (hat : At st.env ops i X.n (.slice t x lo hi none) s gs)
  (hx : opd st.env x = some d) (hD : Ok d b e rows lo0 len) (hb : st.bx b = some (.vec e rows)) (ht : sliceB P t el = true) (he : HQ P el e = true) (hlo : XK lo 0 l rl) (hhi : XK hi len h rh) (h1 : Ge st.env rl) (h2 : Ge st.env rh) (hlh : l ≤ h) (hhl : lo0 + h ≤ rows.length)
  (next : Bc P X ops dr Q r (i + 1) (CO.upd ⟨gs ++ ((x, d) :: (rl ++ rh)), [(b, .vec e rows)], some s, some (.e (.one (.view b e (lo0 + l) (h - l)))), [], []⟩ st) ((i, ⟨gs ++ ((x, d) :: (rl ++ rh)), [(b, .vec e rows)], some s, some (.e (.one (.view b e (lo0 + l) (h - l)))), [], []⟩) :: log)) : Bc P X ops dr Q (r + 1) i st log := by
 obtain ⟨o, ho, hop, hd, hn, hg, hgp⟩ := hat.out
 refine Bc.step next ⟨Am.2 ⟨hgp, hx, Am.2 ⟨h1, h2⟩⟩, ⟨hb, trivial⟩, trivial⟩ (LR.value ho hg rfl hd.symm (DP hd hn) ?_)
 intro G st a w hs hpre
 obtain ⟨hx, h12⟩ := (Am.1 hpre.r).2
 obtain ⟨h1, h2⟩ := Am.1 h12
 have hb := hpre.b.1
 -- the header of the whole
 obtain ⟨a0, cap, k1, k2, k3⟩ := Pu (hs.blk b _ hb)
 have hv : ∃ p, a.eval x = .slice p len (cap - lo0) ∧ lo0 + len ≤ rows.length ∧ (lo0 < cap → p = a0.map fun q => q.add (lo0 * e)) := by
  have hR := hs.opd hx
  cases hD with
  | own =>
   obtain ⟨hR, _⟩ : ER P w G (a.eval x) (.own b) := hR
   exact ⟨a0, hR.trans k1, by omega, fun _ => by cases a0 <;> simp [QP]⟩
  | view _ _ _ _ _ h' =>
   obtain ⟨a1, n1, cap1, p, g1, g2, g3, g4⟩ : ER P w G (a.eval x) (.view b e lo0 len) := hR
   rw [k1] at g1; cases g1
   exact ⟨p, g3, h', g4⟩
 obtain ⟨p, hv1, hv2, hv3⟩ := hv
 refine ⟨.slice (if cap - lo0 = l then p else p.map (·.add (l * e))) (h - l) (cap - lo0 - l), w, G, ?_, hs, ?_⟩
 ·simp only [execOp, hop]
  refine Ai (a := .slice (if cap - lo0 = l then p else p.map (·.add (l * e))) (h - l) (cap - lo0 - l)) (w1 := w) ?_ rfl
  rw [hv1]
  exact Sb (a := a) hs ht he hlo hhi h1 h2 hlh (by omega)
 ·rintro d' ⟨⟩
  refine ⟨⟨a0, rows.length, cap, _, k1, by omega, by rw [show cap - lo0 - l = cap - (lo0 + l) from by omega], fun hlt => ?_⟩, fun b' hb' => ?_⟩
  ·rw [if_neg (by omega), hv3 (by omega)]
   obtain ⟨β, arr, el', g1, _⟩ := k3 (by omega)
   subst g1
   simp only [zE1, Addr.add_mk, zE4, zA3]
  ·simp [D.names, E.names, C.names] at hb'
   subst hb'
   simp [Bo, hb]
theorem WV {t t2 el e : Nat} {w : World} {p p2 : Option Addr} {dl dc n2 c2 : Nat} {news : Array Value} {ty : TypeId} (ht : sliceB P t el = true) (he : HQ P el e = true) (hnew : (Builtin.firstCells e (zF1 n2 dl) (.slice p2 n2 c2)).run P w = .ok news w) {w' : World}
  (hst : ∀ q, p = some q → (storeCells q news.toList).run P w = .ok () w') (hno : p = none → w' = w) : (Builtin.copy_ #[t, t2] ty #[.slice p dl dc, .slice p2 n2 c2]).run P w = .ok (goInt (zF1 n2 dl)) w' := by
 unfold sliceB at ht
 split at ht
 ·rename_i e' hu
  have : e' = el := by simpa using ht
  subst this
  unfold Builtin.copy_
  refine Ai (AN hu w) ?_
  refine Ai (a := n2) (w1 := w) rfl ?_
  refine Ai (Fr he w) ?_
  refine Ai hnew ?_
  cases p with
  | none => rw [hno rfl]; rfl
  | some q => exact Ai (hst q rfl) rfl
 ·cases ht
theorem au {x y : Operand} {t t2 el s e b lo len : Nat} {d d2 : D} {rb2 : List (Nat × BL)} {rows rows2 rows' : List (List T)} (hat : At st.env ops i X.n (.call ⟨.builtin .copy, #[x, y], #[t, t2]⟩) s gs)
  (hx : opd st.env x = some d) (hD : Ok d b e rows lo len) (hb : st.bx b = some (.vec e rows)) (hy : opd st.env y = some d2) (hS : P2 d2 rb2 e rows2) (hb2 : Ik st.bx rb2) (ht : sliceB P t el = true) (he : HQ P el e = true) (hr : Ji rows lo (rows2.take (zF1 rows2.length len)) = rows')
  (next : Bc P X ops dr Q r (i + 1) (CO.upd ⟨gs ++ [(x, d), (y, d2)], (b, .vec e rows) :: rb2, some s, some (vD (goInt (zF1 rows2.length len))), [(b, .vec e rows')], []⟩ st) ((i, ⟨gs ++ [(x, d), (y, d2)], (b, .vec e rows) :: rb2, some s, some (vD (goInt (zF1 rows2.length len))), [(b, .vec e rows')], []⟩) :: log)) : Bc P X ops dr Q (r + 1) i st log := by
 obtain ⟨o, ho, hop, hd, hn, hg, hgp⟩ := hat.out
 refine Bc.step next ⟨Am.2 ⟨hgp, hx, hy, trivial⟩, ⟨hb, hb2⟩, trivial⟩ (LR.value ho hg rfl hd.symm (DP hd hn) ?_)
 intro G st a w hs hpre
 obtain ⟨hx, hy, _⟩ := (Am.1 hpre.r).2
 obtain ⟨hb, hb2⟩ := hpre.b
 subst hr
 obtain ⟨p, cap', h1, h2, h3, h4⟩ := hs.dstV hx hD hb
 obtain ⟨p2, cap2, k1, k2⟩ := hs.srcW hy hS hb2
 have hmin : zF1 rows2.length len ≤ rows2.length := Nat.min_le_left _ _
 have hmin2 : zF1 rows2.length len ≤ len := Nat.min_le_right _ _
 obtain ⟨news, n1, n2, n3⟩ := Rr (P := P) (len := rows2.length) (cap := cap2) hmin k2
 have hl2 : (rows2.take (zF1 rows2.length len)).length = zF1 rows2.length len := by rw [List.length_take]; exact Nat.min_eq_left hmin
 have hrun : ∀ w', (∀ q, p = some q → (storeCells q news.toList).run P w = .ok () w') → (p = none → w' = w) → (execOp a.eval o).run P w = .ok (.value (goInt (zF1 rows2.length len))) w' := fun w' g1 g2 => by
  simp only [execOp, hop]
  refine Gi fun cs => ?_
  simp only [zG1, zC7, zI7, builtin, h1, k1]
  exact Ai (WV ht he n1 g1 g2) rfl
 have fin : ∀ d', some (vD (goInt (zF1 rows2.length len))) = some d' → ∀ w' (G' : Gh), HI P w' G' (goInt (zF1 rows2.length len)) d' ∧ ∀ c, c ∈ d'.names → (Bo st.bx [(b, .vec e (Ji rows lo (rows2.take (zF1 rows2.length len))))] c).isSome = true := fun d' hd' w' G' => by
  cases hd'; exact ⟨.val _ rfl, fun c hc => by cases hc⟩
 by_cases hlt : lo < rows.length
 ·obtain ⟨β, cap, arr, el', g1, g2, g3, g4, g5, g6, g7⟩ := h4 hlt
  subst g4
  have hat := hs.at_ok b _ β hb rfl (.inl g1)
  have hle : lo * e + zF1 rows2.length len * e ≤ arr.size := by rw [g6, ← zE4]; exact zA4 e (by omega)
  have hst := Fm (P := P) (β := β) (el := el') news.toList w (lo * e) 0 arr g5 (by simp [n3]; omega) (EA.ones n2 (by rw [n3, hl2]))
  rw [zF7] at hst
  refine ⟨_, _, G, hrun _ (fun q hq => by cases hq; exact hst) (fun h => by cases h), ?_, fun d' hd' => fin d' hd' _ _⟩
  exact hs.setB (b := b) (k0 := .vec e rows) hb rfl rfl (.inl g1) (Sx hat.2.1 hat.2.2 g1 g2 g3 g6 g7 n2 (by rw [n3, hl2]) (by rw [hl2]; omega)) (fun c hc => by cases hc)
 ·have hz : zF1 rows2.length len = 0 := by omega
  have hn0 : news.toList = [] := zD2 (by simp [n3, hz])
  have hsp : Ji rows lo (rows2.take (zF1 rows2.length len)) = rows := by
   have : lo = rows.length := by omega
   rw [hz]; unfold Ji; simp [this]
  refine ⟨_, w, G, hrun w (fun q _ => by rw [hn0]; rfl) (fun _ => rfl), ?_, fun d' hd' => fin d' hd' _ _⟩
  have : (⟨st.env, Bo st.bx [(b, .vec e (Ji rows lo (rows2.take (zF1 rows2.length len))))]⟩ : St) = st := by
   refine St.ext (fun _ => rfl) fun c => ?_
   simp only [Bo]
   split
   ·rename_i e1; rw [e1, hsp, hb]
   ·rfl
  rw [this]; exact hs
theorem OW {w : World} {S : Nat → Prop} {z : Value} {zs : List Value} {e n : Nat} (hzs : z.cells.toList = zs) (hz1 : zs.all He = true) (hze : zs.length = e) : EA w S (Builtin.zeroCells z.cells n) e 0 (zA6 n (zs.map fun v => (T.of v).nrm)) ∧ (Builtin.zeroCells z.cells n).size = n * e := by
 have hsz : z.cells.size = e := by rw [← hze, ← hzs]; simp
 have hsize : (Builtin.zeroCells z.cells n).size = n * e := by unfold Builtin.zeroCells; simp [hsz]
 refine ⟨⟨by rw [hsize]; simp, ?_, ?_⟩, hsize⟩
 ·intro i row hi
  rw [List.getElem?_replicate] at hi
  split at hi
  ·cases hi; simp [hze]
  ·cases hi
 ·intro i row j t hi hj
  rw [List.getElem?_replicate] at hi
  split at hi
  ·rename_i hlt
   cases hi
   rw [zA1] at hj
   cases hv : zs[j]? with
   | none => rw [hv] at hj; cases hj
   | some v =>
    rw [hv] at hj; cases hj
    have hj' : j < e := by rw [← hze]; exact AF hv
    have hle : i * e + e ≤ n * e := by rw [← zC1]; exact zA4 e hlt
    have hc : Av (Builtin.zeroCells z.cells n) (0 + i * e + j) = v := by
     unfold Av Builtin.zeroCells
     rw [zA3, hsz]
     have h1 : i * e + j < n * e := by omega
     rw [Array.getElem?_map, show (Array.range (n * e))[i * e + j]? = some (i * e + j) from by simp [h1]]
     simp only [zE1, zC6]
     have h2 : (i * e + j) % e = j := by rw [Nat.add_comm, Nat.add_mul_mod_self_right, Nat.mod_eq_of_lt hj']
     rw [h2]
     have h3 : z.cells[j]? = some v := by rw [← Array.getElem?_toList, hzs]; exact hv
     show z.cells[j]! = v
     rw [Array.getElem!_eq_getD, zE8, h3]; rfl
    rw [hc]
    exact (DU.of (zA2.1 hz1 v (lM hv))).nrm
  ·cases hi
theorem WQ {x : Operand} {t el b e lo len : Nat} {z : Value} {zs : List Value} {d : D} {rows rows' : List (List T)} (hop0 : RM ops i = some (.call ⟨.builtin .clear, #[x], #[t]⟩))
  (hx : opd st.env x = some d) (hD : Ok d b e rows lo len) (hb : st.bx b = some (.vec e rows)) (ht : sliceB P t el = true) (hz : DS P el = some z) (hzs : z.cells.toList = zs) (hz1 : zs.all He = true) (hze : zs.length = e)
  (hr : Ji rows lo (zA6 len (zs.map fun v => (T.of v).nrm)) = rows')
  (next : Bc P X ops dr Q r (i + 1) (CO.upd ⟨[(x, d)], [(b, .vec e rows)], none, none, [(b, .vec e rows')], []⟩ st) ((i, ⟨[(x, d)], [(b, .vec e rows)], none, none, [(b, .vec e rows')], []⟩) :: log)) : Bc P X ops dr Q (r + 1) i st log := by
 obtain ⟨o, ho, hop, hd, hgn⟩ := MS hop0
 have hg : VM ops o [] := .none hgn
 refine Bc.step next ⟨⟨hx, trivial⟩, ⟨hb, trivial⟩, trivial⟩ (LR.value (rs := [(x, d)]) ho hg rfl hd.symm (fun s h => by rw [hd] at h; cases h) ?_)
 intro G st a w hs hpre
 have hx := hpre.r.1
 have hb := hpre.b.1
 subst hr
 obtain ⟨p, cap', h1, h2, h3, h4⟩ := hs.dstV hx hD hb
 obtain ⟨n2, n3⟩ := OW (w := w) (S := G.S) (n := len) hzs hz1 hze
 have hl2 : (zA6 len (zs.map fun v => (T.of v).nrm)).length = len := by simp
 have hrun : ∀ w', (len ≠ 0 → ∃ q, p = some q ∧ (storeCells q (Builtin.zeroCells z.cells len).toList).run P w = .ok () w') → (len = 0 → w' = w) → (execOp a.eval o).run P w = .ok (.value (.tuple #[])) w' := fun w' g1 g2 => by
  simp only [execOp, hop]
  refine Gi fun cs => ?_
  simp only [zG1, zC7, zI7, builtin, h1]
  refine Ai (a := .tuple #[]) (w1 := w') ?_ rfl
  unfold sliceB at ht
  split at ht
  ·rename_i e' hu
   have : e' = el := by simpa using ht
   subst this
   unfold Builtin.clear_
   refine Ai (AN hu w) ?_
   by_cases hz0 : len = 0
   ·rw [g2 hz0]
    subst hz0
    cases p <;> rfl
   ·obtain ⟨q, hq, hst⟩ := g1 hz0
    subst hq
    obtain ⟨len', rfl⟩ : ∃ m, len = m + 1 := ⟨len - 1, (Nat.succ_pred_eq_of_pos (Nat.pos_of_ne_zero hz0)).symm⟩
    refine Ai (FV hz w) ?_
    exact Ai hst rfl
  ·cases ht
 have fin : ∀ (d' : D), (none : Option D) = some d' → ∀ w', HI P w' G (.tuple #[]) d' ∧ ∀ c, c ∈ d'.names → (Bo st.bx [(b, .vec e (Ji rows lo (zA6 len (zs.map fun v => (T.of v).nrm))))] c).isSome = true := fun d' hd' => by cases hd'
 by_cases hz0 : len = 0
 ·have hsp : Ji rows lo (zA6 len (zs.map fun v => (T.of v).nrm)) = rows := by rw [hz0]; unfold Ji; simp
  refine ⟨_, w, G, hrun w (fun h => (h hz0).elim) (fun _ => rfl), ?_, fun d' hd' => fin d' hd' _⟩
  have : (⟨st.env, Bo st.bx [(b, .vec e (Ji rows lo (zA6 len (zs.map fun v => (T.of v).nrm))))]⟩ : St) = st := by
   refine St.ext (fun _ => rfl) fun c => ?_
   simp only [Bo]
   split
   ·rename_i e1; rw [e1, hsp, hb]
   ·rfl
  rw [this]; exact hs
 ·have hlr : lo < rows.length := Nat.lt_of_lt_of_le (Nat.lt_add_of_pos_right (Nat.pos_of_ne_zero hz0)) h3
  obtain ⟨β, cap, arr, el', g1, g2, g3, g4, g5, g6, g7⟩ := h4 hlr
  subst g4
  have hat := hs.at_ok b _ β hb rfl (.inl g1)
  have hle : lo * e + len * e ≤ arr.size := by rw [g6, ← zE4]; exact zA4 e (by omega)
  have hst := Fm (P := P) (β := β) (el := el') (Builtin.zeroCells z.cells len).toList w (lo * e) 0 arr g5 (by simp [n3]; omega) (EA.ones n2 (by rw [n3, hl2]))
  rw [zF7] at hst
  refine ⟨_, _, G, hrun _ (fun _ => ⟨_, rfl, hst⟩) (fun h => (hz0 h).elim), ?_, fun d' hd' => fin d' hd' _⟩
  exact hs.setB (b := b) (k0 := .vec e rows) hb rfl rfl (.inl g1) (Sx hat.2.1 hat.2.2 g1 g2 g3 g6 g7 n2 (by rw [n3, hl2]) (by rw [hl2]; exact h3)) (fun c hc => by cases hc)
end run
theorem VD {st : St} (s b e : Nat) (rows : List (List T)) (hs0 : st.env s = some (.e (.one (.own b)))) (hb : st.bx b = some (.vec e rows)) : GA P X st (St.put st (some s) (some (.e (.one (.view b e 0 rows.length))))) := by
 rintro a w ⟨G, h⟩
 obtain ⟨a0, cap, k1, k2, k3⟩ := Pu (h.blk b _ hb)
 obtain ⟨hR, _⟩ : ER P w G (Av a.tmps s) (.own b) := h.env s _ hs0
 refine ⟨G, { h with env := ?_, live := ?_, blk := h.blk, at_ok := h.at_ok, at_inj := h.at_inj, liveB := h.liveB, nlt := h.nlt, lent := h.lent }⟩
 ·intro t d ht
  simp only [St.put] at ht
  split at ht
  ·rename_i e2; cases ht
   rw [e2]
   exact ⟨a0, rows.length, cap, a0, k1, by omega, by rw [hR, k1]; rfl, fun _ => by cases a0 <;> simp [QP]⟩
  ·exact h.env t d ht
 ·intro t d ht c hc
  simp only [St.put] at ht
  split at ht
  ·cases ht
   simp [D.names, E.names, C.names] at hc
   subst hc
   show (st.bx c).isSome = true
   rw [hb]; rfl
  ·exact h.live t d ht c hc
theorem WN {st : St} (s b n e len : Nat) (rows : List (List T)) (hs0 : st.env s = some (.e (.one (.view b e 0 len)))) (hb : st.bx b = some (.vec e rows)) (hn : st.bx n = none) (hlb : Bv b = false) (hln : Bv n = false) (hle : len ≤ rows.length) :
  GA P X st (St.put ⟨st.env, Bo st.bx [(n, .vec e (rows.take len)), (b, .gone)]⟩ (some s) (some (.e (.one (.own n))))) := by
 rintro a w ⟨G, h⟩
 have hnb : n ≠ b := fun e => by rw [e, hb] at hn; cases hn
 obtain ⟨a0, n1, cap, p, k1, k2, k3, k4⟩ : ER P w G (Av a.tmps s) (.view b e 0 len) := h.env s _ hs0
 obtain ⟨a1, cap1, g1, g2, g3⟩ := Pu (h.blk b _ hb)
 rw [g1] at k1; cases k1
 -- the new ghost
 have hlen : (rows.take len).length = len := by rw [List.length_take]; exact Nat.min_eq_left hle
 have hbx : ∀ c, Bo st.bx [(n, BL.vec e (rows.take len)), (b, .gone)] c = if c = n then some (.vec e (rows.take len)) else if c = b then some .gone else st.bx c := fun c => rfl
 have hext : ∀ l v, G.ext (G.set n l v) (fun c => (st.bx c).isSome = true) := fun l v => Gh.set_ext _ _ _ _ (by simp [hn])
 have key : ∃ l v, Av a.tmps s = v ∧ (∃ q m c, v = .slice q m c) ∧ (∀ β, l = some β → G.loc b = some β) ∧ Em P w (G.set n l v) n (.vec e (rows.take len)) := by
  by_cases hc : 0 < cap
  ·obtain ⟨β, arr, el, q1, q2, q3, q4, q5⟩ := g3 hc
   subst q1
   refine ⟨some β, .slice (some ⟨β, 0, none⟩) len cap, ?_, ⟨_, _, _, rfl⟩, fun γ hγ => by cases hγ; exact q2, ?_⟩
   ·rw [k3, k4 hc]; simp [Addr.add_mk]
   ·refine .inr ⟨β, cap, arr, el, by simp [Gh.set], by simp [Gh.set, hlen], q3, by rw [hlen]; omega, q4, fun i row hi => (q5.take (n := len)).2.1 i row hi, fun i row j t hi hj => ?_⟩
    have := (q5.take (n := len)).2.2 i row j t hi hj
    rw [zA3] at this
    exact this
  ·have hr0 : rows.length = 0 := by omega
   have hl0 : len = 0 := by omega
   have hc0 : cap = 0 := by omega
   refine ⟨none, .slice p 0 0, by rw [k3, hl0, hc0], ⟨_, _, _, rfl⟩, fun γ hγ => (by cases hγ), .inl ⟨p, by simp [Gh.set], by rw [hl0, List.take_zero], by simp [Gh.set]⟩⟩
 obtain ⟨l, v, hv1, hv2, hl, hblk⟩ := key
 have h1 : Dd P X (G.set n l v) ⟨st.env, Bo st.bx [(n, .vec e (rows.take len)), (b, .gone)]⟩ a w := by
  refine h.frame ?_ (hext l v) (fun _ _ => rfl) ?_ ?_ ?_ h.S_lt h.S_src h.below (Gh.set_lent _ _ hln)
  ·intro c hc; rw [hbx]; split
   ·rfl
   ·split
    ·rfl
    ·exact hc
  ·intro c k hc
   rw [hbx] at hc
   split at hc
   ·rename_i e2; subst e2; cases hc
    exact .inr ⟨hblk, fun c hc => by cases hc⟩
   ·split at hc
    ·cases hc; exact .inr ⟨trivial, fun c hc => by cases hc⟩
    ·exact .inl ⟨hc, fun _ _ _ => rfl⟩
  ·intro c k β hc hr hβ
   rw [hbx] at hc
   rw [Gh.set_has] at hβ
   split at hc
   ·rename_i e2; rw [if_pos e2] at hβ
    have h5 := h.at_ok b _ β hb rfl (.inl (hl β hβ))
    exact ⟨.new (h5.1.1 hlb), h5.2⟩
   ·rename_i e2; rw [if_neg e2] at hβ
    split at hc
    ·cases hc; cases hr
    ·exact h.at_ok c k β hc hr hβ
  ·intro c c' k k' β hc hc' hr hr' hβ hβ'
   rw [hbx] at hc hc'
   rw [Gh.set_has] at hβ hβ'
   have old : ∀ c k, (if c = n then some (BL.vec e (rows.take len)) else if c = b then some .gone else st.bx c) = some k → k.real = true → (if c = n then l = some β else G.has c β) → (c = n ∧ G.has b β) ∨ (c ≠ n ∧ c ≠ b ∧ st.bx c = some k ∧ G.has c β) := by
    intro c k hc hr hβ
    split at hc
    ·rename_i e2; rw [if_pos e2] at hβ; exact .inl ⟨e2, .inl (hl β hβ)⟩
    ·rename_i e2; rw [if_neg e2] at hβ
     split at hc
     ·cases hc; cases hr
     ·rename_i e3; exact .inr ⟨e2, e3, hc, hβ⟩
   rcases old c k hc hr hβ with ⟨h2, h3⟩ | ⟨h2, h3, h4, h5⟩ <;> rcases old c' k' hc' hr' hβ' with ⟨h2', h3'⟩ | ⟨h2', h3', h4', h5'⟩
   ·rw [h2, h2']
   ·exact (h3' (h.at_inj c' b _ _ β h4' hb hr' rfl h5' h3)).elim
   ·exact (h3 (h.at_inj c b _ _ β h4 hb hr rfl h5 h3')).elim
   ·exact h.at_inj c c' k k' β h4 h4' hr hr' h5 h5'
 refine ⟨G.set n l v, { h1 with env := ?_, live := ?_, blk := h1.blk, at_ok := h1.at_ok, at_inj := h1.at_inj, liveB := h1.liveB, nlt := h1.nlt, lent := h1.lent }⟩
 ·intro t d ht
  simp only [St.put] at ht
  split at ht
  ·rename_i e2; cases ht
   rw [e2, hv1]
   exact ⟨by simp [Gh.set], hv2⟩
  ·exact h1.env t d ht
 ·intro t d ht c hc
  simp only [St.put] at ht
  split at ht
  ·cases ht
   simp [D.names, E.names, C.names] at hc
   subst hc
   show (Bo st.bx [(c, .vec e (rows.take len)), (b, .gone)] c).isSome = true
   simp [Bo]
  ·exact h1.live t d ht c hc
end Go.Lift
namespace Go.Lift
open Go.RowKit
variable {P : Program} {X : IX} {ops : Array Oper}
def W8 (a b : Int) : Int := if b < a then b else a
def Vj (a b : Int) : Int := if b > a then b else a
def SU (b : ByteArray) (i : Int) : Option Int := if 0 ≤ i then (b[i.toNat]?).map fun x => (x.toNat : Int) else none
theorem Vl {β : Type} {b : ByteArray} {i : Int} {f : Int → Option β} {r : β} (h : (SU b i).bind f = some r) : ∃ x : UInt8, 0 ≤ i ∧ b[i.toNat]? = some x ∧ f (x.toNat : Int) = some r := by
 obtain ⟨x, h1, h2⟩ := bind_some h
 unfold SU at h1
 split at h1
 ·rename_i h0
  cases hx : b[i.toNat]? with
  | none => rw [hx] at h1; cases h1
  | some y => rw [hx] at h1; cases h1; exact ⟨y, h0, rfl, h2⟩
 ·cases h1
def CG (xs : List Int) : ByteArray := xs.foldl (fun s n => s.push (UInt8.ofNat n.toNat)) ByteArray.empty
section run
variable {dr : Bool} {Q : St → Prop} {r i : Nat} {st : St} {log : List (Nat × CO)} {o : Oper} {gs : List (Operand × D)}
theorem bp {x y : Operand} {t t2 s : Nat} {k k2 : IntKind} {a0 b0 : Int} (hat : At st.env ops i X.n (.call ⟨.builtin .min, #[x, y], #[t, t2]⟩) s gs)
  (hx : opd st.env x = some (vD (.int k a0))) (hy : opd st.env y = some (vD (.int k2 b0)))
  (next : Bc P X ops dr Q r (i + 1) (CO.upd ⟨gs ++ [(x, vD (.int k a0)), (y, vD (.int k2 b0))], [], some s, some (vD (.int k (W8 a0 b0))), [], []⟩ st) ((i, ⟨gs ++ [(x, vD (.int k a0)), (y, vD (.int k2 b0))], [], some s, some (vD (.int k (W8 a0 b0))), [], []⟩) :: log)) : Bc P X ops dr Q (r + 1) i st log := by
 obtain ⟨o, ho, hop, hd, hn, hg, hgp⟩ := hat.out
 refine Bc.step next ⟨Am.2 ⟨hgp, hx, hy, trivial⟩, trivial, trivial⟩ (LR.value ho hg rfl hd.symm (DP hd hn) ?_)
 intro G st a w hs hpre
 obtain ⟨hx, hy, _⟩ := (Am.1 hpre.r).2
 have h1 : a.eval x = .int k a0 := Fi (hs.opd hx : DU w G.S (a.eval x) (.val _))
 have h2 : a.eval y = .int k2 b0 := Fi (hs.opd hy : DU w G.S (a.eval y) (.val _))
 refine ⟨.int k (W8 a0 b0), w, G, ?_, hs, ?_⟩
 ·simp only [execOp, hop]
  refine Gi fun cs => ?_
  simp only [zG1, zC7, zI7, builtin, h1, h2]
  rfl
 ·rintro d ⟨⟩
  exact ⟨.val _ rfl, fun b hb => by cases hb⟩
theorem bV {x y : Operand} {t t2 s : Nat} {k k2 : IntKind} {a0 b0 : Int} (hat : At st.env ops i X.n (.call ⟨.builtin .max, #[x, y], #[t, t2]⟩) s gs)
  (hx : opd st.env x = some (vD (.int k a0))) (hy : opd st.env y = some (vD (.int k2 b0)))
  (next : Bc P X ops dr Q r (i + 1) (CO.upd ⟨gs ++ [(x, vD (.int k a0)), (y, vD (.int k2 b0))], [], some s, some (vD (.int k (Vj a0 b0))), [], []⟩ st) ((i, ⟨gs ++ [(x, vD (.int k a0)), (y, vD (.int k2 b0))], [], some s, some (vD (.int k (Vj a0 b0))), [], []⟩) :: log)) : Bc P X ops dr Q (r + 1) i st log := by
 obtain ⟨o, ho, hop, hd, hn, hg, hgp⟩ := hat.out
 refine Bc.step next ⟨Am.2 ⟨hgp, hx, hy, trivial⟩, trivial, trivial⟩ (LR.value ho hg rfl hd.symm (DP hd hn) ?_)
 intro G st a w hs hpre
 obtain ⟨hx, hy, _⟩ := (Am.1 hpre.r).2
 have h1 : a.eval x = .int k a0 := Fi (hs.opd hx : DU w G.S (a.eval x) (.val _))
 have h2 : a.eval y = .int k2 b0 := Fi (hs.opd hy : DU w G.S (a.eval y) (.val _))
 refine ⟨.int k (Vj a0 b0), w, G, ?_, hs, ?_⟩
 ·simp only [execOp, hop]
  refine Gi fun cs => ?_
  simp only [zG1, zC7, zI7, builtin, h1, h2]
  rfl
 ·rintro d ⟨⟩
  exact ⟨.val _ rfl, fun b hb => by cases hb⟩
theorem T6 {x : Operand} {s b k : Nat} (hat : At st.env ops i X.n (.nilCheck x) s gs) (hx : opd st.env x = some (.e (.one (.ptr b k))))
  (next : Bc P X ops dr Q r (i + 1) (CO.upd ⟨gs ++ [(x, .e (.one (.ptr b k)))], [], some s, some (.e (.one (.ptr b k))), [], []⟩ st) ((i, ⟨gs ++ [(x, .e (.one (.ptr b k)))], [], some s, some (.e (.one (.ptr b k))), [], []⟩) :: log)) : Bc P X ops dr Q (r + 1) i st log := by
 obtain ⟨o, ho, hop, hd, hn, hg, hgp⟩ := hat.out
 refine Bc.step next ⟨Am.2 ⟨hgp, hx, trivial⟩, trivial, trivial⟩ (LR.value ho hg rfl hd.symm (DP hd hn) ?_)
 intro G st a w hs hpre
 obtain ⟨hx, _⟩ := (Am.1 hpre.r).2
 obtain ⟨β, hβ, hv⟩ : ER P w G (a.eval x) (.ptr b k) := hs.opd hx
 refine ⟨.pointer (some ⟨β, k, none⟩), w, G, ?_, hs, ?_⟩
 ·simp only [execOp, hop, hv]; rfl
 ·rintro d ⟨⟩
  exact ⟨⟨β, hβ, rfl⟩, fun b' hb' => hs.opd_live hx b' hb'⟩
theorem Ta {x : Operand} {b e ix k n s : Nat} {rows : List (List T)} {row us : List T} {t : TypeId} (hat : At st.env ops i X.n (.load t x) s gs)
  (hx : opd st.env x = some (.e (.one (.eptr b e ix k)))) (ht : FH P t true = true) (hz : HQ P t n = true) (hb : st.bx b = some (.vec e rows)) (hrow : rows[ix]? = some row) (hc : (row.drop k).take n = us) (hl : us.length = n) (hn0 : 0 < n)
  (next : Bc P X ops dr Q r (i + 1) (CO.upd ⟨gs ++ [(x, .e (.one (.eptr b e ix k)))], [(b, .vec e rows)], some s, some (.e (.agg (us.map C.pure))), [], []⟩ st) ((i, ⟨gs ++ [(x, .e (.one (.eptr b e ix k)))], [(b, .vec e rows)], some s, some (.e (.agg (us.map C.pure))), [], []⟩) :: log)) : Bc P X ops dr Q (r + 1) i st log := by
 obtain ⟨o, ho, hop, hd, hn, hg, hgp⟩ := hat.out
 refine Bc.step next ⟨Am.2 ⟨hgp, hx, trivial⟩, ⟨hb, trivial⟩, trivial⟩ (LR.value ho hg rfl hd.symm (DP hd hn) ?_)
 intro G st a w hs hpre
 have hx := (Am.1 hpre.r).2.1
 have hb := hpre.b.1
 obtain ⟨β, hβ, hv⟩ : ER P w G (a.eval x) (.eptr b e ix k) := hs.opd hx
 rcases hs.blk b _ hb with ⟨_, _, h0, _⟩ | ⟨β', cap, arr, el, h0, h1, h2, h3, h4, h5, h6⟩
 ·subst h0; simp at hrow
 rw [hβ] at h0; cases h0
 have hre := h5 ix row hrow
 have hix := AF hrow
 have hkn : k + n ≤ row.length := by
  have := congrArg zF8 hc
  simp at this; omega
 have hbnd : ix * e + e ≤ arr.size := by
  rw [h4, ← zC1]; exact zA4 e (by omega)
 have hbnd2 : ix * e + k + n ≤ arr.size := by omega
 refine ⟨.agg ((zB4 n).map fun j => Av arr (ix * e + k + j)).toArray, w, G, ?_, hs, ?_⟩
 ·simp only [execOp, hop, hv]
  exact Ai (II ht hz h2 hbnd2) rfl
 ·rintro d ⟨⟩
  refine ⟨KQ hl fun j u hj => ?_, fun b hb => ?_⟩
  ·have hjn := AF hj
   rw [← hc, zC9 (by omega), zF4] at hj
   have := h6 ix row _ u hrow hj
   rwa [← zF6] at this
  ·have hb' : b ∈ Ey (us.map C.pure) := hb
   rw [J5] at hb'; cases hb'
def QE (P : Program) (t : TypeId) : Bool := match P.underlying t with | some .string => true | _ => false
theorem V4 {x y : Operand} {t s : Nat} {b : ByteArray} {k : IntKind} {n : Int} {c : UInt8} (hat : At st.env ops i X.n (.index t x y) s gs)
  (hx : opd st.env x = some (vD (.string b))) (hy : opd st.env y = some (vD (.int k n))) (ht : QE P t = true) (h0 : 0 ≤ n) (hc : b[n.toNat]? = some c)
  (next : Bc P X ops dr Q r (i + 1) (CO.upd ⟨gs ++ [(x, vD (.string b)), (y, vD (.int k n))], [], some s, some (vD (.int .u8 (c.toNat : Int))), [], []⟩ st) ((i, ⟨gs ++ [(x, vD (.string b)), (y, vD (.int k n))], [], some s, some (vD (.int .u8 (c.toNat : Int))), [], []⟩) :: log)) : Bc P X ops dr Q (r + 1) i st log := by
 obtain ⟨o, ho, hop, hd, hn, hg, hgp⟩ := hat.out
 refine Bc.step next ⟨Am.2 ⟨hgp, hx, hy, trivial⟩, trivial, trivial⟩ (LR.value ho hg rfl hd.symm (DP hd hn) ?_)
 intro G st a w hs hpre
 obtain ⟨hx, hy, _⟩ := (Am.1 hpre.r).2
 have h1 : a.eval x = .string b := Fi (hs.opd hx : DU w G.S (a.eval x) (.val _))
 have h2 : a.eval y = .int k n := Fi (hs.opd hy : DU w G.S (a.eval y) (.val _))
 refine ⟨.int .u8 (c.toNat : Int), w, G, ?_, hs, ?_⟩
 ·simp only [execOp, hop, h1, h2]
  refine Ai (a := .int .u8 (c.toNat : Int)) (w1 := w) ?_ rfl
  unfold QE at ht
  split at ht
  ·rename_i hu
   unfold Instr.index
   refine Ai (a := (k, n)) (w1 := w) rfl ?_
   refine Ai (AN hu w) ?_
   simp only [h0, if_true, hc]
   rfl
  ·cases ht
 ·rintro d ⟨⟩
  exact ⟨.val _ rfl, fun b hb => by cases hb⟩
def Rb (P : Program) (s : TypeId) : Bool := match P.underlying s with | some (.slice e) => (match P.underlying e with | some (.int .u8) => true | _ => false) | _ => false
theorem Qe {w : World} {a : Addr} {len cap : Nat} {xs : List Int} (h : (loadCells a len).run P w = .ok (xs.map fun n => Value.int .u8 n).toArray w) : (Conv.bytesToString (.slice (some a) len cap)).run P w = .ok (.string (CG xs)) w := by
 unfold Conv.bytesToString
 refine Ai h ?_
 have key : ∀ (xs : List Int) (s : ByteArray), (forIn (m := Sem) (xs.map fun n => Value.int .u8 n) s (fun c r => (match c with
   | .int .u8 n => pure (ForInStep.yield (r.push (UInt8.ofNat n.toNat)))
   | _ => do stuck "bytesToString: byte expected" : Sem (ForInStep ByteArray)))).run P w = .ok (xs.foldl (fun s n => s.push (UInt8.ofNat n.toNat)) s) w := by
  intro xs
  induction xs with
  | nil => intro s; rfl
  | cons x xs ih =>
   intro s
   rw [zC7, List.forIn_cons]
   refine Ai (a := ForInStep.yield (s.push (UInt8.ofNat x.toNat))) (w1 := w) rfl ?_
   exact ih _
 have h2 := key xs ByteArray.empty
 rw [← List.forIn_toArray] at h2
 refine Ai (a := CG xs) (w1 := w) ?_ rfl
 exact h2
theorem Xw {x : Operand} {t t2 s : Nat} {d : D} {rb : List (Nat × BL)} {rows : List (List T)} (xs : List Int) (hat : At st.env ops i X.n (.convert t t2 x) s gs)
  (hx : opd st.env x = some d) (hS : P2 d rb 1 rows) (hb : Ik st.bx rb) (hr : rows = xs.map fun n => [T.val (.int .u8 n)]) (ht : Rb P t = true) (ht2 : QE P t2 = true)
  (next : Bc P X ops dr Q r (i + 1) (CO.upd ⟨gs ++ [(x, d)], rb, some s, some (vD (.string (CG xs))), [], []⟩ st) ((i, ⟨gs ++ [(x, d)], rb, some s, some (vD (.string (CG xs))), [], []⟩) :: log)) : Bc P X ops dr Q (r + 1) i st log := by
 obtain ⟨o, ho, hop, hd, hn, hg, hgp⟩ := hat.out
 refine Bc.step next ⟨Am.2 ⟨hgp, hx, trivial⟩, hb, trivial⟩ (LR.value ho hg rfl hd.symm (DP hd hn) ?_)
 intro G st a w hs hpre
 obtain ⟨hx, _⟩ := (Am.1 hpre.r).2
 have hb := hpre.b
 obtain ⟨p, cap, h1, h2⟩ := hs.srcW hx hS hb
 subst hr
 refine ⟨.string (CG xs), w, G, ?_, hs, ?_⟩
 ·simp only [execOp, hop]
  refine Ai (a := .string (CG xs)) (w1 := w) ?_ rfl
  unfold Rb at ht
  split at ht
  ·rename_i e hu
   split at ht
   ·rename_i hu2
    unfold QE at ht2
    split at ht2
    ·rename_i hu3
     unfold convert
     refine Ai (AN hu w) ?_
     refine Ai (AN hu3 w) ?_
     rw [h1]
     simp only [zB0]
     refine Ai (AN hu2 w) ?_
     rcases h2 with h2 | ⟨β, off, arr, el, fz, h3, h4, h5⟩
     ·have hx0 : xs = [] := by simpa using h2
      subst hx0
      cases p with
      | none => rfl
      | some q => exact Qe (xs := []) (by unfold loadCells loadCellsFrom; rfl)
     ·subst h3
      refine Qe ?_
      have hsz : off + xs.length ≤ arr.size := by have := h5.1; simpa using this
      rw [Ho h4 hsz]
      congr 1
      apply congrArg List.toArray
      apply List.ext_getElem?
      intro j
      rw [zA1, zA1]
      by_cases hj : j < xs.length
      ·have hxj : xs[j]? = some xs[j] := by simp [hj]
       rw [List.getElem?_range hj, hxj]
       simp only [zE1, Option.some.injEq]
       have hrow : (xs.map fun n => [T.val (.int .u8 n)])[j]? = some [T.val (.int .u8 xs[j])] := by rw [zA1, hxj]; rfl
       have := h5.2.2 j _ 0 _ hrow rfl
       rw [Nat.mul_one, zF7] at this
       exact Fi this
      ·rw [zD1 (by simp; omega), zD1 (by omega)]; rfl
    ·cases ht2
   ·cases ht
  ·cases ht
 ·rintro d ⟨⟩
  exact ⟨.val _ rfl, fun b hb => by cases hb⟩
end run
section maps
variable {K V : Type}
def Ir [BEq K] (k : K) : List (K × V) → Option V
 | [] => none
 | p :: r => if k == p.1 then some p.2 else Ir k r
def LB [BEq K] (k : K) (v : V) : List (K × V) → List (K × V)
 | [] => [(k, v)]
 | p :: r => if k == p.1 then (k, v) :: r else p :: LB k v r
def F3 (kv : K → Value) (vt : V → T) (m : List (K × V)) : List (Value × T) := m.map fun p => (kv p.1, vt p.2)
end maps
structure O5 {K : Type} [BEq K] (P : Program) (t : TypeId) (kv : K → Value) : Prop where
 ty : ∃ kt el kd, P.underlying t = some (.map kt el) ∧ P.underlying kt = some kd ∧ (∀ a b : K, Instr.sameNow kd (kv a) (kv b) = some (a == b)) ∧ (∀ (e : Bool) (n : Nat) (v : K) (w : World), (Instr.checkKey e (n + 1) kt (kv v)).run P w = .ok () w)
 same : ∀ a b : K, (a == b) = true → Instr.sameBits 10000 (kv b) (kv a) = true
theorem LF {K V : Type} [BEq K] {kd : TypeDesc} {kv : K → Value} (h : ∀ a b : K, Instr.sameNow kd (kv a) (kv b) = some (a == b)) (k : K) : ∀ (m : List (K × V)) (es : List MapEntry) (i : Nat), es.length = m.length → (∀ (j : Nat) (p : K × V), m[j]? = some p → ∃ e : MapEntry, es[j]? = some e ∧ e.key = kv p.1) →
  (Ir k m = none ∧ Instr.findNow kd (kv k) es i = some none) ∨ ∃ j p e, m[j]? = some p ∧ es[j]? = some e ∧ (k == p.1) = true ∧ Ir k m = some p.2 ∧ Instr.findNow kd (kv k) es i = some (some (i + j, e.val)) ∧ (∀ v, LB k v m = m.set j (k, v))
 | [], [], i, _, _ => .inl ⟨rfl, rfl⟩
 | p :: m, e :: es, i, hl, hp => by
  obtain ⟨e0, h0, h1⟩ := hp 0 p rfl
  simp at h0; subst h0
  have h2 := h k p.1
  by_cases hk : (k == p.1) = true
  ·refine .inr ⟨0, p, e, rfl, rfl, hk, ?_, ?_, fun v => ?_⟩
   ·simp only [Ir, hk, if_true]
   ·simp only [Instr.findNow, h1, h2, hk]; rfl
   ·simp only [LB, hk, if_true]; rfl
  ·have hk' : (k == p.1) = false := by simpa using hk
   rcases LF h k m es (i + 1) (by simpa using hl) (fun j q hq => hp (j + 1) q (by simpa using hq)) with ⟨g1, g2⟩ | ⟨j, q, e', g1, g2, g3, g4, g5, g6⟩
   ·refine .inl ⟨?_, ?_⟩
    ·simp only [Ir, hk']; exact g1
    ·simp only [Instr.findNow, h1, h2, hk']; exact g2
   ·refine .inr ⟨j + 1, q, e', by simpa using g1, by simpa using g2, g3, ?_, ?_, fun v => ?_⟩
    ·simp only [Ir, hk']; exact g4
    ·simp only [Instr.findNow, h1, h2, hk']; rw [g5]; simp [zF6, Nat.add_comm 1]
    ·simp only [LB, hk']; rw [g6 v]; rfl
theorem LY {K V : Type} [BEq K] (k : K) (v : V) : ∀ {m : List (K × V)}, Ir k m = none → LB k v m = m ++ [(k, v)]
 | [], _ => rfl
 | p :: m, h => by
  simp only [Ir] at h
  split at h
  ·cases h
  ·rename_i hk
   simp only [LB]; rw [if_neg hk, LY k v h]; rfl
section run
variable {dr : Bool} {Q : St → Prop} {r i : Nat} {st : St} {log : List (Nat × CO)} {o : Oper} {gs : List (Operand × D)}
theorem U9 {t s : Nat} (hat : At st.env ops i X.n (.makeMap t none) s gs) (hnew : st.bx s = none)
  (next : Bc P X ops dr Q r (i + 1) (CO.upd ⟨gs, [], some s, some (.e (.one (.mref s))), [(s, .mp [])], [s]⟩ st) ((i, ⟨gs, [], some s, some (.e (.one (.mref s))), [(s, .mp [])], [s]⟩) :: log)) : Bc P X ops dr Q (r + 1) i st log := by
 obtain ⟨o, ho, hop, hd, hn, hg, hgp⟩ := hat.out
 refine Bc.step next ⟨hgp, trivial, hnew, trivial⟩ (LR.value (rs := []) ho hg (by simp) hd.symm (DP hd hn) ?_)
 intro G st a w hs hpre
 have hnew := hpre.n.1
 have key := hs.newB (.map #[] 0) s (.mp []) undef (hs.nl hn) hnew
  ⟨w.heap.size, #[], 0, by simp [Gh.set], by rw [Dk, if_pos rfl], rfl, fun i x h => by simp at h⟩ (fun c hc => by cases hc)
 refine ⟨.map (some w.heap.size), _, _, ?_, key, ?_⟩
 ·simp only [execOp, hop]
  exact Ai (a := .map (some w.heap.size)) (w1 := w.alloc (.map #[] 0)) rfl rfl
 ·rintro d ⟨⟩
  refine ⟨⟨w.heap.size, by simp [Gh.set], rfl⟩, fun b hb => ?_⟩
  simp [D.names, E.names, C.names] at hb
  subst hb; simp [Bo]
theorem Uk {t s k e : Nat} {x : Operand} {n : Int} {kd : IntKind} (hat : At st.env ops i X.n (.makeMap t (some x)) s gs) (hx : opd st.env x = some (vD (.int kd n))) (ht : P.underlying t = some (.map k e)) (hnew : st.bx s = none)
  (next : Bc P X ops dr Q r (i + 1) (CO.upd ⟨gs ++ [(x, vD (.int kd n))], [], some s, some (.e (.one (.mref s))), [(s, .mp [])], [s]⟩ st) ((i, ⟨gs ++ [(x, vD (.int kd n))], [], some s, some (.e (.one (.mref s))), [(s, .mp [])], [s]⟩) :: log)) : Bc P X ops dr Q (r + 1) i st log := by
 obtain ⟨o, ho, hop, hd, hn, hg, hgp⟩ := hat.out
 refine Bc.step next ⟨Am.2 ⟨hgp, hx, trivial⟩, trivial, hnew, trivial⟩ (LR.value ho hg rfl hd.symm (DP hd hn) ?_)
 intro G st a w hs hpre
 have hnew := hpre.n.1
 have hX : a.eval x = .int kd n := Fi (hs.opd (Am.1 hpre.r).2.1 : DU w G.S (a.eval x) (.val _))
 have key := hs.newB (.map #[] 0) s (.mp []) undef (hs.nl hn) hnew
  ⟨w.heap.size, #[], 0, by simp [Gh.set], by rw [Dk, if_pos rfl], rfl, fun i x h => by simp at h⟩ (fun c hc => by cases hc)
 refine ⟨.map (some w.heap.size), _, _, ?_, key, ?_⟩
 ·simp only [execOp, hop, zE1, hX]
  refine Ai (a := .map (some w.heap.size)) (w1 := w.alloc (.map #[] 0)) ?_ rfl
  unfold Instr.makeMap
  refine Ai (AN ht w) ?_
  exact Ai (a := _) (w1 := w) rfl rfl
 ·rintro d ⟨⟩
  refine ⟨⟨w.heap.size, by simp [Gh.set], rfl⟩, fun b hb => ?_⟩
  simp [D.names, E.names, C.names] at hb
  subst hb; simp [Bo]
theorem Dd.mpAt {G : Gh} {a : Act} {w : World} (hs : Dd P X G st a w) {x : Operand} {b : Nat} {es : List (Value × T)} (hx : Lift.opd st.env x = some (.e (.one (.mref b)))) (hb : st.bx b = some (.mp es)) :
  ∃ β arr clock, a.eval x = .map (some β) ∧ G.loc b = some β ∧ w.heap[β]? = some (.map arr clock) ∧ arr.size = es.length ∧ ∀ (i : Nat) (y : Value × T), es[i]? = some y → ∃ m : MapEntry, arr[i]? = some m ∧ m.key = y.1 ∧ DU w G.S m.val y.2 := by
 obtain ⟨β, hβ, hv⟩ : ER P w G (a.eval x) (.mref b) := hs.opd hx
 obtain ⟨β', arr, clock, h1, h2, h3, h4⟩ := hs.blk b _ hb
 rw [hβ] at h1; cases h1
 exact ⟨β, arr, clock, hv, hβ, h2, h3, h4⟩
theorem KX {β : Nat} {arr : Array MapEntry} {clock : Nat} {w : World} (h : w.heap[β]? = some (.map arr clock)) : (getObj β).run P w = .ok (.map arr clock) w := by
 simp [getObj, Sem.run, h]
theorem OD {β : Nat} {arr : Array MapEntry} {clock : Nat} {o : Obj} {w : World} (h : w.heap[β]? = some (.map arr clock)) : (setObj β o).run P w = .ok () (Gm w β o) := by
 simp [setObj, Sem.run, h, Gm]
theorem J6 {K _V : Type} [BEq K] {kt : TypeId} {kd : TypeDesc} {kv : K → Value} {k : K} {es : List MapEntry} {r : Option (Nat × Value)} {w : World} (hu : P.underlying kt = some kd) (h : Instr.findNow kd (kv k) es 0 = some r) : (Instr.findKey kt (kv k) es).run P w = .ok r w := by
 unfold Instr.findKey
 refine Ai (AN hu w) ?_
 rw [h]; rfl
inductive UG (w : World) : Value → Array MapEntry → Prop where
 | nil : UG w (.map none) #[]
 | here (β clock : Nat) (arr : Array MapEntry) (h : w.heap[β]? = some (.map arr clock)) : UG w (.map (some β)) arr
theorem TJ {K V : Type} [BEq K] {t el : Nat} {c : Bool} {z x : Value} {kv : K → Value} {vt : V → T} {m : List (K × V)} {k : K} {dv v0 : V} {w : World} {S : Nat → Prop} {arr : Array MapEntry} (h3 : UG w x arr) (h4 : arr.size = (F3 kv vt m).length)
  (h5 : ∀ (i : Nat) (y : Value × T), (F3 kv vt m)[i]? = some y → ∃ e : MapEntry, arr[i]? = some e ∧ e.key = y.1 ∧ DU w S e.val y.2)
  (hk : O5 P t kv) (hel : (match P.underlying t with | some (.map _ e) => e == el | _ => false) = true) (hz : DS P el = some z) (hzv : vt dv = .val z) (hz1 : He z = true) (hv0 : (Ir k m).getD dv = v0) :
  ∃ v, (Instr.lookup t x (kv k) c).run P w = .ok (if c then .tuple #[v, .bool (Ir k m).isSome] else v) w ∧ DU w S v (vt v0) := by
 obtain ⟨kt, el', kd, u1, u2, u3, u4⟩ := hk.ty
 rw [u1] at hel
 have hel' : el' = el := by simpa using hel
 subst hel'
 have hes : ∀ (j : Nat) (p : K × V), m[j]? = some p → ∃ e : MapEntry, arr.toList[j]? = some e ∧ e.key = kv p.1 ∧ DU w S e.val (vt p.2) := fun j p hp => by
  obtain ⟨e, e1, e2, e3⟩ := h5 j (kv p.1, vt p.2) (by unfold F3; rw [zA1, hp]; rfl)
  exact ⟨e, by simpa using e1, e2, e3⟩
 rcases LF (V := V) u3 k m arr.toList 0 (by simp [h4, F3]) (fun j p hp => by obtain ⟨e, e1, e2, _⟩ := hes j p hp; exact ⟨e, e1, e2⟩) with ⟨g1, g2⟩ | ⟨j, q, e, g1, g2, g3, g4, g5, _⟩
 ·refine ⟨z, ?_, ?_⟩
  ·rw [g1]
   unfold Instr.lookup
   refine Ai (AN u1 w) ?_
   cases h3
   case' here h3 => refine Ai (KX h3) ?_
   all_goals refine Ai (a := _) (w1 := w) rfl ?_
   all_goals refine Ai (u4 _ _ _ _) ?_
   all_goals refine Ai (J6 (_V := V) u2 g2) ?_
   all_goals refine Ai (FV hz w) ?_
   all_goals exact Ai (a := (z, false)) (w1 := w) rfl rfl
  ·rw [← hv0, g1, Option.getD_none, hzv]; exact .val _ hz1
 ·refine ⟨e.val, ?_, ?_⟩
  ·rw [g4]
   unfold Instr.lookup
   refine Ai (AN u1 w) ?_
   cases h3 with
   | nil => cases g2
   | here β clock _ h3 =>
    refine Ai (KX h3) ?_
    refine Ai (a := arr) (w1 := w) rfl ?_
    refine Ai (u4 _ _ _ _) ?_
    refine Ai (J6 (_V := V) u2 g5) ?_
    exact Ai (a := (e.val, true)) (w1 := w) rfl rfl
  ·obtain ⟨e', e1, _, e3⟩ := hes j q g1
   rw [g2] at e1; cases e1
   rw [← hv0, g4]; exact e3
inductive da : D → List (Value × T) → List (Nat × BL) → Prop where
 | ref (b : Nat) (es : List (Value × T)) : da (.e (.one (.mref b))) es [(b, .mp es)]
 | tree (es : List (Value × T)) : da (one (.mp es)) es []
theorem Dd.mpAtD {G : Gh} {a : Act} {w : World} (hs : Dd P X G st a w) {x : Operand} {d : D} {es : List (Value × T)} {bs : List (Nat × BL)} (hm : da d es bs) (hx : Lift.opd st.env x = some d) (hb : Ik st.bx bs) :
  ∃ arr, UG w (a.eval x) arr ∧ arr.size = es.length ∧ ∀ (i : Nat) (y : Value × T), es[i]? = some y → ∃ m : MapEntry, arr[i]? = some m ∧ m.key = y.1 ∧ DU w G.S m.val y.2 := by
 cases hm with
 | ref b =>
  obtain ⟨β, arr, clock, h1, h2, h3, h4, h5⟩ := hs.mpAt hx hb.1
  exact ⟨arr, by rw [h1]; exact .here β clock arr h3, h4, h5⟩
 | tree =>
  have h : DU w G.S (a.eval x) (.mp es) := hs.opd hx
  generalize a.eval x = v at h
  cases h with
  | mp β clock arr _ h1 h2 h3 h4 h5 =>
   refine ⟨arr, .here β clock arr h2, h3, fun i y hy => ?_⟩
   have hlt : i < arr.size := by rw [h3]; exact AF hy
   exact ⟨arr[i], by simp [hlt], h4 i y _ hy (by simp [hlt]), h5 i y _ hy (by simp [hlt])⟩
  | mp0 => exact ⟨#[], .nil, rfl, fun i y hy => by simp at hy⟩
theorem QI {K V : Type} [BEq K] {t s el : Nat} {x y : Operand} {c : Bool} {z : Value} {kv : K → Value} {vt : V → T} {m : List (K × V)} {k : K} {dv v0 : V} {dx : D} {bs : List (Nat × BL)} (hmd : da dx (F3 kv vt m) bs) (hat : At st.env ops i X.n (.lookup t x y c) s gs)
  (hx : opd st.env x = some dx) (hy : opd st.env y = some (vD (kv k))) (hb : Ik st.bx bs) (hk : O5 P t kv) (hel : (match P.underlying t with | some (.map _ e) => e == el | _ => false) = true) (hz : DS P el = some z) (hzv : vt dv = .val z) (hz1 : He z = true) (hv0 : (Ir k m).getD dv = v0)
  (next : Bc P X ops dr Q r (i + 1) (CO.upd ⟨gs ++ [(x, dx), (y, vD (kv k))], bs, some s, some (if c then .tup [.one (.pure (vt v0)), .one (.pure (.val (.bool (Ir k m).isSome)))] else one (vt v0)), [], []⟩ st) ((i, ⟨gs ++ [(x, dx), (y, vD (kv k))], bs, some s, some (if c then .tup [.one (.pure (vt v0)), .one (.pure (.val (.bool (Ir k m).isSome)))] else one (vt v0)), [], []⟩) :: log)) : Bc P X ops dr Q (r + 1) i st log := by
 obtain ⟨o, ho, hop, hd, hn, hg, hgp⟩ := hat.out
 refine Bc.step next ⟨Am.2 ⟨hgp, hx, hy, trivial⟩, hb, trivial⟩ (LR.value ho hg rfl hd.symm (DP hd hn) ?_)
 intro G st a w hs hpre
 obtain ⟨hx, hy, _⟩ := (Am.1 hpre.r).2
 obtain ⟨arr, h3, h4, h5⟩ := hs.mpAtD hmd hx hpre.b
 have hY : a.eval y = kv k := Fi (hs.opd hy : DU w G.S (a.eval y) (.val _))
 obtain ⟨v, hv1, hv2⟩ := TJ (c := c) h3 h4 h5 hk hel hz hzv hz1 hv0
 refine ⟨(if c then .tuple #[v, .bool (Ir k m).isSome] else v), w, G, ?_, hs, ?_⟩
 ·simp only [execOp, hop, hY]
  exact Ai hv1 rfl
 ·rintro d hd'
  cases c with
  | false => cases hd'; exact ⟨hv2, fun b hb => by cases hb⟩
  | true =>
   cases hd'
   refine ⟨⟨_, rfl, rfl, fun j x hj => ?_⟩, fun b hb => by simp [D.names, Ka, E.names, C.names] at hb⟩
   match j, hj with
   | 0, hj => cases hj; exact hv2
   | 1, hj => cases hj; exact .val _ rfl
theorem VQ {K V : Type} [BEq K] {t s b el : Nat} {x y : Operand} {c : Bool} {z : Value} {kv : K → Value} {vt : V → T} {m : List (K × V)} {k : K} {dv v0 : V} (hat : At st.env ops i X.n (.lookup t x y c) s gs)
  (hx : opd st.env x = some (.e (.one (.mref b)))) (hy : opd st.env y = some (vD (kv k))) (hb : st.bx b = some (.mp (F3 kv vt m))) (hk : O5 P t kv) (hel : (match P.underlying t with | some (.map _ e) => e == el | _ => false) = true) (hz : DS P el = some z) (hzv : vt dv = .val z) (hz1 : He z = true) (hv0 : (Ir k m).getD dv = v0)
  (next : Bc P X ops dr Q r (i + 1) (CO.upd ⟨gs ++ [(x, .e (.one (.mref b))), (y, vD (kv k))], [(b, .mp (F3 kv vt m))], some s, some (if c then .tup [.one (.pure (vt v0)), .one (.pure (.val (.bool (Ir k m).isSome)))] else one (vt v0)), [], []⟩ st) ((i, ⟨gs ++ [(x, .e (.one (.mref b))), (y, vD (kv k))], [(b, .mp (F3 kv vt m))], some s, some (if c then .tup [.one (.pure (vt v0)), .one (.pure (.val (.bool (Ir k m).isSome)))] else one (vt v0)), [], []⟩) :: log)) : Bc P X ops dr Q (r + 1) i st log :=
 QI (.ref b _) hat hx hy ⟨hb, trivial⟩ hk hel hz hzv hz1 hv0 next
theorem NC {K V : Type} [BEq K] {t s el : Nat} {x y : Operand} {c : Bool} {z : Value} {kv : K → Value} {vt : V → T} {m : List (K × V)} {k : K} {dv v0 : V} (hat : At st.env ops i X.n (.lookup t x y c) s gs)
  (hx : opd st.env x = some (one (.mp (F3 kv vt m)))) (hy : opd st.env y = some (vD (kv k))) (hk : O5 P t kv) (hel : (match P.underlying t with | some (.map _ e) => e == el | _ => false) = true) (hz : DS P el = some z) (hzv : vt dv = .val z) (hz1 : He z = true) (hv0 : (Ir k m).getD dv = v0)
  (next : Bc P X ops dr Q r (i + 1) (CO.upd ⟨gs ++ [(x, one (.mp (F3 kv vt m))), (y, vD (kv k))], [], some s, some (if c then .tup [.one (.pure (vt v0)), .one (.pure (.val (.bool (Ir k m).isSome)))] else one (vt v0)), [], []⟩ st) ((i, ⟨gs ++ [(x, one (.mp (F3 kv vt m))), (y, vD (kv k))], [], some s, some (if c then .tup [.one (.pure (vt v0)), .one (.pure (.val (.bool (Ir k m).isSome)))] else one (vt v0)), [], []⟩) :: log)) : Bc P X ops dr Q (r + 1) i st log :=
 QI (.tree _) hat hx hy trivial hk hel hz hzv hz1 hv0 next
theorem Ph {K V : Type} [BEq K] {t b : Nat} {x y u : Operand} {kv : K → Value} {vt : V → T} {m m' : List (K × V)} {k : K} {v : V} {op : Op} (hat : RM ops i = some op) (hop' : op = .mapUpdate t x y u ∨ op = .insert t x y u)
  (hx : opd st.env x = some (.e (.one (.mref b)))) (hy : opd st.env y = some (vD (kv k))) (hu : opd st.env u = some (one (vt v))) (hb : st.bx b = some (.mp (F3 kv vt m))) (hk : O5 P t kv) (hm : LB k v m = m')
  (next : Bc P X ops dr Q r (i + 1) (CO.upd ⟨[(x, .e (.one (.mref b))), (y, vD (kv k)), (u, one (vt v))], [(b, .mp (F3 kv vt m))], none, none, [(b, .mp (F3 kv vt m'))], []⟩ st) ((i, ⟨[(x, .e (.one (.mref b))), (y, vD (kv k)), (u, one (vt v))], [(b, .mp (F3 kv vt m))], none, none, [(b, .mp (F3 kv vt m'))], []⟩) :: log)) : Bc P X ops dr Q (r + 1) i st log := by
 obtain ⟨o, ho, hop, hd, hgn⟩ := MS hat
 have hg : VM ops o [] := .none hgn
 refine Bc.step next ⟨⟨hx, hy, hu, trivial⟩, ⟨hb, trivial⟩, trivial⟩ (LR.skip (rs := [(x, .e (.one (.mref b))), (y, vD (kv k)), (u, one (vt v))]) ho hg rfl hd rfl ?_)
 intro G st a w hs hpre
 obtain ⟨hx, hy, hu, _⟩ := hpre.r
 have hb := hpre.b.1
 subst hm
 obtain ⟨β, arr, clock, h1, h2, h3, h4, h5⟩ := hs.mpAt hx hb
 have hY : a.eval y = kv k := Fi (hs.opd hy : DU w G.S (a.eval y) (.val _))
 have hU : DU w G.S (a.eval u) (vt v) := hs.opd hu
 obtain ⟨kt, el', kd, u1, u2, u3, u4⟩ := hk.ty
 have hes : ∀ (j : Nat) (p : K × V), m[j]? = some p → ∃ e : MapEntry, arr.toList[j]? = some e ∧ e.key = kv p.1 ∧ DU w G.S e.val (vt p.2) := fun j p hp => by
  obtain ⟨e, e1, e2, e3⟩ := h5 j (kv p.1, vt p.2) (by unfold F3; rw [zA1, hp]; rfl)
  exact ⟨e, by simpa using e1, e2, e3⟩
 have hat := hs.at_ok b _ β hb rfl (.inl h2)
 have hml : arr.size = m.length := by rw [h4]; simp [F3]
 have fin : ∀ arr' clock', arr'.size = (LB k v m).length → (∀ (j : Nat) (p : K × V), (LB k v m)[j]? = some p → ∃ e : MapEntry, arr'[j]? = some e ∧ e.key = kv p.1 ∧ DU w G.S e.val (vt p.2)) →
   Dd P X G ⟨st.env, Bo st.bx [(b, .mp (F3 kv vt (LB k v m)))]⟩ a (Gm w β (.map arr' clock')) := by
  intro arr' clock' k1 k2
  have hS : ∀ γ, G.S γ → (Gm w β (.map arr' clock')).heap[γ]? = w.heap[γ]? := fun γ hγ => by
   rw [DX, if_neg (fun (h : γ = β ∧ β < w.heap.size) => hat.2.2 (h.1 ▸ hγ))]
  refine hs.setB (b := b) (k0 := .mp (F3 kv vt m)) hb rfl rfl (.inl h2) ⟨β, arr', clock', h2, by rw [DX, if_pos ⟨rfl, hat.2.1⟩], by rw [k1]; simp [F3], fun j y hy => ?_⟩ (fun c hc => by cases hc)
  unfold F3 at hy
  rw [zA1] at hy
  cases hp : (LB k v m)[j]? with
  | none => rw [hp] at hy; cases hy
  | some p =>
   rw [hp] at hy; cases hy
   obtain ⟨e, e1, e2, e3⟩ := k2 j p hp
   exact ⟨e, e1, e2, e3.mono hS fun _ h => h⟩
 have hrun : ∀ w', (Instr.mapUpdate t (.map (some β)) (kv k) (a.eval u)).run P w = .ok () w' → (execOp a.eval o).run P w = .ok .skip w' := fun w' h => by
  rcases hop' with e | e
  ·simp only [execOp, hop, e, h1, hY]; exact Ai h rfl
  ·simp only [execOp, hop, e, h1, hY]; exact Ai h rfl
 rcases LF (V := V) u3 k m arr.toList 0 (by simp [hml]) (fun j p hp => by obtain ⟨e, e1, e2, _⟩ := hes j p hp; exact ⟨e, e1, e2⟩) with ⟨g1, g2⟩ | ⟨j, q, e, g1, g2, g3, g4, g5, g6⟩
 ·refine ⟨_, G, hrun _ ?_, fin (arr.push { key := kv k, val := a.eval u, born := clock }) (clock + 1) ?_ ?_⟩
  ·unfold Instr.mapUpdate
   refine Ai (AN u1 w) ?_
   refine Ai (KX h3) ?_
   refine Ai (u4 _ _ _ _) ?_
   refine Ai (J6 (_V := V) u2 g2) ?_
   exact OD h3
  ·rw [LY k v g1]; simp [hml]
  ·intro j p hp
   rw [LY k v g1] at hp
   by_cases hj : j < m.length
   ·rw [zC8 hj] at hp
    obtain ⟨e, e1, e2, e3⟩ := hes j p hp
    refine ⟨e, ?_, e2, e3⟩
    rw [Array.getElem?_push, if_neg (by omega)]
    simpa using e1
   ·rw [zB9 (by omega)] at hp
    have hj0 : j - m.length = 0 := by have := AF hp; simp at this; omega
    rw [hj0] at hp; cases hp
    exact ⟨{ key := kv k, val := a.eval u, born := clock }, by rw [Array.getElem?_push, if_pos (by omega)], rfl, hU⟩
 ·have hjm := AF g1
  have hje : arr[j]? = some e := by simpa using g2
  have hek : e.key = kv q.1 := by obtain ⟨e', e1, e2, _⟩ := hes j q g1; rw [g2] at e1; cases e1; exact e2
  refine ⟨_, G, hrun _ ?_, fin (arr.modify j fun e => { e with key := kv k, val := a.eval u }) clock ?_ ?_⟩
  ·unfold Instr.mapUpdate
   refine Ai (AN u1 w) ?_
   refine Ai (KX h3) ?_
   refine Ai (u4 _ _ _ _) ?_
   refine Ai (J6 (_V := V) u2 g5) ?_
   simp only [zA3]
   refine Ai (a := kv k) (w1 := w) ?_ (OD h3)
   rw [hje]
   simp only [zE1, zC6]
   unfold Instr.keyThatStays
   rw [hek, hk.same k q.1 g3]; rfl
  ·rw [g6 v]; simp [hml]
  ·intro j' p hp
   rw [g6 v] at hp
   rw [zJ7]
   rcases ID hp with ⟨rfl, rfl⟩ | ⟨hne, hp⟩
   ·rw [if_pos rfl, hje]
    exact ⟨_, rfl, rfl, hU⟩
   ·rw [if_neg (fun h => hne h.symm)]
    obtain ⟨e', e1, e2, e3⟩ := hes j' p hp
    exact ⟨e', by simpa using e1, e2, e3⟩
end run
end Go.Lift
namespace Go.Lift
open List renaming mem_of_getElem? → lM
open List renaming getD_eq_getElem?_getD → lD
open Go.RowKit
variable {P : Program} {X : IX} {ops : Array Oper}
def C.ts0 : C → Option T
 | .pure t => some t
 | _ => none
def E.ts0 : E → Option (List T)
 | .one c => match c.ts0 with
  | some t => some [t]
  | none => none
 | .agg cs => cs.mapM C.ts0
theorem ER.ts0 {w : World} {G : Gh} {v : Value} {c : C} {t : T} (h : ER P w G v c) (ht : c.ts0 = some t) : DU w G.S v t := by
 cases c <;> first | (cases ht; done) | (cases ht; exact h)
theorem Jn.ts0 {w : World} {G : Gh} {v : Value} {y : E} {ts : List T} (h : Jn P w G v y) (ht : y.ts0 = some ts) :
  v.cells.size = ts.length ∧ ∀ (j : Nat) (t : T), ts[j]? = some t → DU w G.S (Av v.cells j) t := by
 obtain ⟨h1, h2⟩ := h.cells
 cases y with
 | one c =>
  simp only [E.ts0] at ht
  cases hc : c.ts0 with
  | none => rw [hc] at ht; cases ht
  | some t =>
   rw [hc] at ht; cases ht
   refine ⟨h1, fun j u hj => ?_⟩
   cases j with
   | zero => simp at hj; subst hj; exact (h2 0 c rfl).ts0 hc
   | succ j => simp at hj
 | agg cs =>
  obtain ⟨g1, g2⟩ := MM (show cs.mapM C.ts0 = some ts from ht)
  refine ⟨by rw [h1, g1]; rfl, fun j t hj => ?_⟩
  obtain ⟨c, hc1, hc2⟩ := g2 j t hj
  exact (h2 j c hc1).ts0 hc2
theorem Pp {w : World} {G : Gh} (e : Nat) : ∀ (ps : List (Nat × E)) (vs : List (Nat × Value)) (rows : List (List T)) (k n : Nat) (arr : Array Value),
  ps.map (·.1) = (zF9 k ps.length) → k + ps.length ≤ n → arr.size = n * e → ps.length = vs.length → (∀ (j : Nat) (p : Nat × E) (v : Nat × Value), ps[j]? = some p → vs[j]? = some v → p.1 = v.1 ∧ Jn P w G v.2 p.2) →
  (ps.mapM fun p => p.2.ts0) = some rows → (∀ (i : Nat) (row : List T), rows[i]? = some row → row.length = e) →
  ∃ arr', Instr.fill (fun i => some (i * e, e)) arr vs = some arr' ∧ arr'.size = n * e ∧ (∀ j, j < k * e → Av arr' j = Av arr j) ∧ (∀ (i : Nat) (row : List T) (j : Nat) (t : T), rows[i]? = some row → row[j]? = some t → DU w G.S (Av arr' ((k + i) * e + j)) t)
 | [], [], rows, k, n, arr, _, _, hsz, _, _, hr, _ => by
  simp at hr; subst hr
  exact ⟨arr, rfl, hsz, fun _ _ => rfl, fun i row j t hi => by simp at hi⟩
 | p :: ps, v :: vs, rows, k, n, arr, hk, hkn, hsz, hl, hp, hr, hrl => by
  simp only [zC5] at hkn hl
  have hk0 : p.1 = k := by
   have := congrArg (fun l : List Nat => l[0]?) hk
   simpa [zF9] using this
  have hk1 : ps.map (·.1) = zF9 (k + 1) ps.length := by
   have := congrArg List.tail hk
   simpa [zF9] using this
  obtain ⟨e1, e2⟩ := hp 0 p v rfl rfl
  rw [zK5] at hr
  cases hts : p.2.ts0 with
  | none => rw [hts] at hr; simp at hr
  | some ts =>
   obtain ⟨g1, g2⟩ := e2.ts0 hts
   rw [hts] at hr
   cases hrs : (ps.mapM fun p => p.2.ts0) with
   | none => rw [hrs] at hr; simp at hr
   | some rs =>
    rw [hrs] at hr
    simp at hr; subst hr
    have hte := hrl 0 ts rfl
    have hke : k * e + e ≤ n * e := by rw [← zC1]; exact zA4 e (by omega)
    obtain ⟨arr', r1, r2, r3, r4⟩ := Pp e ps vs rs (k + 1) n (FB arr (k * e) v.2.cells.toList) hk1 (by omega) (by rw [GG, hsz]) (by omega) (fun j q u hq hu => hp (j + 1) q u (by simpa using hq) (by simpa using hu)) hrs (fun i row hi => hrl (i + 1) row (by simpa using hi))
    have hlen : v.2.cells.toList.length = e := by rw [zH3, g1, hte]
    have hov : ∀ j, Av (FB arr (k * e) v.2.cells.toList) j = if k * e ≤ j ∧ j < k * e + e then Av v.2.cells (j - k * e) else Av arr j := fun j => by
     rw [Fj _ _ _ _ (by rw [hlen, hsz]; exact hke), hlen, FY]
    refine ⟨arr', ?_, r2, ?_, ?_⟩
    ·obtain ⟨vi, vv⟩ := v
     simp only at e1 g1
     simp only [Instr.fill]
     rw [if_neg (by rw [← e1, hk0]; simp; omega), NP, ← e1, hk0]
     exact r1
    ·intro j hj
     rw [r3 j (by rw [zC1]; omega), hov, if_neg (by omega)]
    ·intro i row j t hi hj
     cases i with
     | zero =>
      simp at hi; subst hi
      have hj2 := AF hj
      rw [zF7, r3 _ (by rw [zC1]; omega), hov, if_pos (by omega), zH0]
      exact g2 j t hj
     | succ i =>
      rw [show (k + (i + 1)) * e + j = (k + 1 + i) * e + j from by rw [show k + (i + 1) = k + 1 + i from by omega]]
      exact r4 i row j t (by simpa using hi) hj
section run
variable {dr : Bool} {Q : St → Prop} {r i : Nat} {st : St} {log : List (Nat × CO)} {o : Oper} {gs : List (Operand × D)}
theorem Mi {t el : TypeId} {s n e : Nat} {z : Value} {rows : List (List T)} {parts : Array (Nat × Operand)} (ps : List (Nat × Operand × E)) (hat : At st.env ops i X.n (.buildSlice t n parts) s gs) (hps : parts = (ps.map fun p => (p.1, p.2.1)).toArray)
  (hx : Ge st.env (H3 ps)) (hnew : st.bx s = none) (ht : sliceB P t el = true) (he : HQ P el e = true) (hz : DS P el = some z) (hk : ps.map (·.1) = zF9 0 ps.length) (hl : ps.length = n) (hsm : n * e ≤ 16777216) (hr : (ps.map fun p => (p.1, p.2.2)).mapM (fun p => p.2.ts0) = some rows) (hrl : rows.all (fun row => row.length == e) = true)
  (next : Bc P X ops dr Q r (i + 1) (CO.upd ⟨gs ++ H3 ps, [], some s, some (.e (.one (.own s))), [(s, .vec e rows)], [s]⟩ st) ((i, ⟨gs ++ H3 ps, [], some s, some (.e (.one (.own s))), [(s, .vec e rows)], [s]⟩) :: log)) : Bc P X ops dr Q (r + 1) i st log := by
 obtain ⟨o, ho, hop, hd, hn, hg, hgp⟩ := hat.out
 refine Bc.step next ⟨Am.2 ⟨hgp, hx⟩, trivial, hnew, trivial⟩ (LR.value ho hg rfl hd.symm (DP hd hn) ?_)
 intro G st a w hs hpre
 have hx := (Am.1 hpre.r).2
 have hnew := hpre.n.1
 have hpr := KZ hs hx
 have hrl' : ∀ (i : Nat) (row : List T), rows[i]? = some row → row.length = e := fun i row hi => by
  have := zA2.1 hrl row (lM hi); simpa using this
 have hrn : rows.length = n := by
  have := LP hr
  simpa [hl] using this
 obtain ⟨arr', r1, r2, r3, r4⟩ := Pp (P := P) (w := w) (G := G) e (ps.map fun p => (p.1, p.2.2)) (ps.map fun p => (p.1, a.eval p.2.1)) rows 0 n ((Array.range (n * e)).map (fun k => (if n * e = 0 then (#[] : Array Value) else z.cells)[k % (if n * e = 0 then (#[] : Array Value) else z.cells).size]!)) (by simpa [Function.comp_def] using hk) (by simp [hl]) (by simp) (by simp) (fun j p v hp hv => ⟨(hpr j p v hp hv).1, (hpr j p v hp hv).2.1⟩) hr hrl'
 simp only [zA3] at r4
 have hext : G.ext (G.set s (some w.heap.size) (.slice (some ⟨w.heap.size, 0, none⟩) n n)) (fun b => (st.bx b).isSome = true) := Gh.set_ext _ _ _ _ (by simp [hnew])
 have key := hs.newB (.cells arr' el) s (.vec e rows) (.slice (some ⟨w.heap.size, 0, none⟩) n n) (hs.nl hn) hnew
  (.inr ⟨w.heap.size, n, arr', el, by simp [Gh.set], by simp [Gh.set, hrn], by rw [Dk, if_pos rfl], by omega, r2, hrl', fun i row j t hi hj => (r4 i row j t hi hj).mono (fun β hβ => by rw [Dk, if_neg (Nat.ne_of_lt (hs.S_lt β hβ))]) fun _ h => h⟩)
  (fun c hc => by cases hc)
 refine ⟨.slice (some ⟨w.heap.size, 0, none⟩) n n, _, _, ?_, key, ?_⟩
 ·simp only [execOp, hop, hps, Li]
  refine Ai (w1 := w.alloc (.cells arr' el)) (a := .slice (some ⟨w.heap.size, 0, none⟩) n n) ?_ rfl
  unfold sliceB at ht
  split at ht
  ·rename_i e' hu
   have : e' = el := by simpa using ht
   subst this
   unfold Instr.buildSlice
   refine Ai (AN hu w) ?_
   refine Ai (Fr he w) ?_
   rw [if_neg (by omega)]
   by_cases hne : n * e = 0
   ·rw [if_pos hne] at r1
    rw [if_pos hne]
    refine Ai (a := (#[] : Array Value)) (w1 := w) rfl ?_
    simp only [r1]
    rfl
   ·rw [if_neg hne] at r1
    rw [if_neg hne]
    refine Ai (FV hz w) ?_
    refine Ai (a := z.cells) (w1 := w) rfl ?_
    simp only [r1]
    rfl
  ·cases ht
 ·rintro d ⟨⟩
  refine ⟨⟨by simp [Gh.set], _, _, _, rfl⟩, fun b hb => ?_⟩
  simp [D.names, E.names, C.names] at hb
  subst hb; simp [Bo]
def vl : BL → Option (Nat × Nat)
 | .vec e rows => some (e, rows.length)
 | .dvec e _ rows => some (e, rows.length)
 | .pvec _ e _ rows => some (e, rows.length)
 | .hol e _ _ _ _ rows => some (e, rows.length)
 | _ => none
theorem ZD {G : Gh} {w : World} {b e n : Nat} {k : BL} (h : Em P w G b k) (hk : vl k = some (e, n)) : ∃ a cap, G.hd b = .slice a n cap ∧ (0 < n → ∃ β, a = some ⟨β, 0, none⟩ ∧ G.loc b = some β) := by
 cases k with
 | vec e' rows =>
  cases hk
  rcases h with ⟨a, h1, h2, _⟩ | ⟨β, cap, arr, el, h0, h1, _⟩
  ·subst h2; exact ⟨a, 0, h1, fun h => by cases h⟩
  ·exact ⟨_, cap, h1, fun _ => ⟨β, rfl, h0⟩⟩
 | dvec e' cols rows =>
  cases hk
  rcases h with ⟨a, h1, h2, _⟩ | ⟨β, cap, arr, el, Rf, h0, h1, _⟩
  ·subst h2; exact ⟨a, 0, h1, fun h => by cases h⟩
  ·exact ⟨_, cap, h1, fun _ => ⟨β, rfl, h0⟩⟩
 | pvec n_ e' cols rows =>
  obtain ⟨_, h⟩ := h
  cases hk
  rcases h with ⟨a, h1, h2, _⟩ | ⟨β, cap, arr, el, Rf, h0, h1, _⟩
  ·subst h2; exact ⟨a, 0, h1, fun h => by cases h⟩
  ·exact ⟨_, cap, h1, fun _ => ⟨β, rfl, h0⟩⟩
 | hol e' cols i0 k0 c rows =>
  cases hk
  obtain ⟨β, cap, arr, el, Rf, h0, h1, _⟩ := h
  exact ⟨_, cap, h1, fun _ => ⟨β, rfl, h0⟩⟩
 | _ => cases hk
theorem Nk {x y : Operand} {s e b m : Nat} {kb : BL} {t el : TypeId} {k : IntKind} {n : Int} (hat : At st.env ops i X.n (.indexAddr t x y) s gs)
  (hx : opd st.env x = some (.e (.one (.own b)))) (hy : opd st.env y = some (vD (.int k n))) (hb : st.bx b = some kb) (hk : vl kb = some (e, m)) (ht : sliceB P t el = true) (hz : HQ P el e = true) (h0 : 0 ≤ n) (hlt : n.toNat < m)
  (next : Bc P X ops dr Q r (i + 1) (CO.upd ⟨gs ++ [(x, .e (.one (.own b))), (y, vD (.int k n))], [(b, kb)], some s, some (.e (.one (.eptr b e n.toNat 0))), [], []⟩ st) ((i, ⟨gs ++ [(x, .e (.one (.own b))), (y, vD (.int k n))], [(b, kb)], some s, some (.e (.one (.eptr b e n.toNat 0))), [], []⟩) :: log)) : Bc P X ops dr Q (r + 1) i st log := by
 obtain ⟨o, ho, hop, hd, hn, hg, hgp⟩ := hat.out
 refine Bc.step next ⟨Am.2 ⟨hgp, hx, hy, trivial⟩, ⟨hb, trivial⟩, trivial⟩ (LR.value ho hg rfl hd.symm (DP hd hn) ?_)
 intro G st a w hs hpre
 obtain ⟨hx, hy, _⟩ := (Am.1 hpre.r).2
 have hb := hpre.b.1
 obtain ⟨hR, _⟩ : ER P w G (a.eval x) (.own b) := hs.opd hx
 have hY : a.eval y = .int k n := Fi (hs.opd hy : DU w G.S (a.eval y) (.val _))
 obtain ⟨a0, cap, h1, h2⟩ := ZD (hs.blk b _ hb) hk
 obtain ⟨β, g1, g2⟩ := h2 (by omega)
 subst g1
 refine ⟨_, w, G, by simp only [execOp, hop, hR, h1, hY]; exact Ai (LJ ht hz h0 hlt) rfl, hs, ?_⟩
 rintro d ⟨⟩
 exact ⟨⟨β, g2, by simp⟩, fun b' hb' => hs.opd_live hx b' (by simpa [D.names, E.names, C.names] using hb')⟩
theorem TS {x : Operand} {s t el b e m : Nat} {kb : BL} (hat : At st.env ops i X.n (.call ⟨.builtin .len, #[x], #[t]⟩) s gs)
  (hx : opd st.env x = some (.e (.one (.own b)))) (hb : st.bx b = some kb) (hk : vl kb = some (e, m)) (ht : sliceB P t el = true)
  (next : Bc P X ops dr Q r (i + 1) (CO.upd ⟨gs ++ [(x, .e (.one (.own b)))], [(b, kb)], some s, some (vD (goInt m)), [], []⟩ st) ((i, ⟨gs ++ [(x, .e (.one (.own b)))], [(b, kb)], some s, some (vD (goInt m)), [], []⟩) :: log)) : Bc P X ops dr Q (r + 1) i st log := by
 obtain ⟨o, ho, hop, hd, hn, hg, hgp⟩ := hat.out
 refine Bc.step next ⟨Am.2 ⟨hgp, hx, trivial⟩, ⟨hb, trivial⟩, trivial⟩ (LR.value ho hg rfl hd.symm (DP hd hn) ?_)
 intro G st a w hs hpre
 obtain ⟨hx, _⟩ := (Am.1 hpre.r).2
 have hb := hpre.b.1
 obtain ⟨hR, _⟩ : ER P w G (a.eval x) (.own b) := hs.opd hx
 obtain ⟨a0, cap, h1, h2⟩ := ZD (hs.blk b _ hb) hk
 refine ⟨goInt m, w, G, ?_, hs, ?_⟩
 ·simp only [execOp, hop]
  refine Gi fun cs => ?_
  simp only [zG1, zC7, zI7, builtin, hR, h1]
  exact Ai (Nq ht) rfl
 ·rintro d ⟨⟩
  exact ⟨.val _ rfl, fun b hb => by cases hb⟩
def VJ : Ow → Bool
 | .s => true
 | _ => false
theorem Ue {o : Ow} (h : VJ o = true) : o = .s := by cases o with
 | s => rfl
 | x e cols => cases h
theorem UY {G : Gh} {w : World} {b e ix : Nat} {cols : List Ow} {rows : List (List T)} {row : List T} (h : Em P w G b (.dvec e cols rows)) (hrow : rows[ix]? = some row) :
  ∃ β cap arr el, ∃ Rf : Nat → Nat → Nat → Prop, G.loc b = some β ∧ G.hd b = .slice (some ⟨β, 0, none⟩) rows.length cap ∧ w.heap[β]? = some (.cells arr el (0, 0)) ∧ rows.length ≤ cap ∧ arr.size = cap * e ∧
    (∀ (i : Nat) (row : List T), rows[i]? = some row → row.length = e) ∧ (∀ (i : Nat) (row : List T) (j : Nat) (t : T), rows[i]? = some row → row[j]? = some t → Q2 w G.S (cols.getD j .s) (Rf i j) (Av arr (i * e + j)) t) ∧
    (∀ i j γ, Rf i j γ → G.more b γ) ∧ (∀ i j, ¬ Rf i j β) ∧ (∀ i j i' j' γ, Rf i j γ → Rf i' j' γ → i = i' ∧ j = j') ∧ ix * e + e ≤ arr.size := by
 rcases h with ⟨_, _, h0, _⟩ | ⟨β, cap, arr, el, Rf, h0, h1, h2, h3, h4, h5, h6, h7, h8, h9⟩
 ·subst h0; simp at hrow
 ·refine ⟨β, cap, arr, el, Rf, h0, h1, h2, h3, h4, h5, h6, h7, h8, h9, ?_⟩
  have := AF hrow
  rw [h4, ← zC1]; exact zA4 e (zG3 this h3)
theorem R8 {x : Operand} {b e ix k n s : Nat} {cols : List Ow} {rows : List (List T)} {row us : List T} {t : TypeId} (hat : At st.env ops i X.n (.load t x) s gs)
  (hx : opd st.env x = some (.e (.one (.eptr b e ix k)))) (ht : FH P t true = true) (hz : HQ P t n = true) (hb : st.bx b = some (.dvec e cols rows)) (hrow : rows[ix]? = some row) (hc : (row.drop k).take n = us) (hl : us.length = n) (hn0 : 0 < n) (hS : ((zB4 n).all fun j => VJ (cols.getD (k + j) .s)) = true)
  (next : Bc P X ops dr Q r (i + 1) (CO.upd ⟨gs ++ [(x, .e (.one (.eptr b e ix k)))], [(b, .dvec e cols rows)], some s, some (.e (.agg (us.map C.pure))), [], []⟩ st) ((i, ⟨gs ++ [(x, .e (.one (.eptr b e ix k)))], [(b, .dvec e cols rows)], some s, some (.e (.agg (us.map C.pure))), [], []⟩) :: log)) : Bc P X ops dr Q (r + 1) i st log := by
 obtain ⟨o, ho, hop, hd, hn, hg, hgp⟩ := hat.out
 refine Bc.step next ⟨Am.2 ⟨hgp, hx, trivial⟩, ⟨hb, trivial⟩, trivial⟩ (LR.value ho hg rfl hd.symm (DP hd hn) ?_)
 intro G st a w hs hpre
 have hx := (Am.1 hpre.r).2.1
 have hb := hpre.b.1
 obtain ⟨β, hβ, hv⟩ : ER P w G (a.eval x) (.eptr b e ix k) := hs.opd hx
 obtain ⟨β', cap, arr, el, Rf, h0, h1, h2, h3, h4, h5, h6, h7, h8, h9, h10⟩ := UY (hs.blk b _ hb) hrow
 rw [hβ] at h0; cases h0
 have hre := h5 ix row hrow
 have hkn : k + n ≤ row.length := by
  have := congrArg zF8 hc
  simp at this; omega
 have hbnd2 : ix * e + k + n ≤ arr.size := by omega
 refine ⟨.agg ((zB4 n).map fun j => Av arr (ix * e + k + j)).toArray, w, G, ?_, hs, ?_⟩
 ·simp only [execOp, hop, hv]
  exact Ai (II ht hz h2 hbnd2) rfl
 ·rintro d ⟨⟩
  refine ⟨KQ hl fun j u hj => ?_, fun b hb => ?_⟩
  ·have hjn := AF hj
   rw [← hc, zC9 (by omega), zF4] at hj
   have := h6 ix row _ u hrow hj
   rw [Ue (zA2.1 hS j (zD8.2 (by omega)))] at this
   cases this with
   | s h => rwa [← zF6] at h
  ·have hb' : b ∈ Ey (us.map C.pure) := hb
   rw [J5] at hb'; cases hb'
end run
theorem ER.moreI {w : World} {G : Gh} {m : Nat → Nat → Prop} {v : Value} {c : C} (h : ER P w G v c) : ER P w { G with more := m } v c := by
 cases c with
 | cls f caps =>
  obtain ⟨vs, h1, h2, h3⟩ := h
  refine ⟨vs, h1, h2, fun j c hj => ?_⟩
  have := h3 j c hj
  cases c <;> exact this
 | _ => exact h
theorem Jn.moreI {w : World} {G : Gh} {m : Nat → Nat → Prop} {v : Value} {x : E} (h : Jn P w G v x) : Jn P w { G with more := m } v x := by
 cases x with
 | one c => exact ER.moreI h
 | agg cs => obtain ⟨vs, e, hs, h⟩ := h; exact ⟨vs, e, hs, fun j c hj => (h j c hj).moreI⟩
theorem HI.moreI {w : World} {G : Gh} {m : Nat → Nat → Prop} {v : Value} {d : D} (h : HI P w G v d) : HI P w { G with more := m } v d := by
 cases d with
 | e x => exact Jn.moreI h
 | tup xs => obtain ⟨vs, e, hs, h⟩ := h; exact ⟨vs, e, hs, fun j c hj => (h j c hj).moreI⟩
theorem Em.moreI {w : World} {G : Gh} {m : Nat → Nat → Prop} {b : Nat} {k : BL} (h : Em P w G b k) (hm : m b = G.more b) : Em P w { G with more := m } b k := by
 cases k with
 | box cells => obtain ⟨β, arr, el, h1, h2, h3, h4⟩ := h; exact ⟨β, arr, el, h1, h2, h3, fun j c hj => (h4 j c hj).moreI⟩
 | vec e rows => exact h
 | mp es => exact h
 | dvec e cols rows =>
  rcases h with h | ⟨β, cap, arr, el, Rf, h0, h1, h2, h3, h4, h5, h6, h7, h8⟩
  ·exact .inl h
  ·exact .inr ⟨β, cap, arr, el, Rf, h0, h1, h2, h3, h4, h5, h6, fun i j γ hγ => by show m b γ; rw [hm]; exact h7 i j γ hγ, h8⟩
 | pvec n e cols rows =>
  obtain ⟨hn, h⟩ := h
  refine ⟨hn, ?_⟩
  rcases h with h | ⟨β, cap, arr, el, Rf, h0, h1, h2, h3, h4, h5, h6, h7, h8⟩
  ·exact .inl h
  ·exact .inr ⟨β, cap, arr, el, Rf, h0, h1, h2, h3, h4, h5, h6, fun i j γ hγ => by show m b γ; rw [hm]; exact h7 i j γ hγ, h8⟩
 | hol e cols i0 k0 c rows =>
  obtain ⟨β, cap, arr, el, Rf, h0, h1, h2, h3, h4, h5, h6, h7, h8⟩ := h
  exact ⟨β, cap, arr, el, Rf, h0, h1, h2, h3, h4, h5, h6, fun i j γ hγ => by show m b γ; rw [hm]; exact h7 i j γ hγ, h8⟩
 | gone => trivial
theorem Dd.frame2 {G G' : Gh} {st : St} {bx' : Nat → Option BL} {a : Act} {w w' : World} (h : Dd P X G st a w)
  (hlive : ∀ b, (st.bx b).isSome = true → (bx' b).isSome = true)
  (hS : ∀ β, G.S β → G'.S β) (hloc : ∀ b, (st.bx b).isSome = true → G'.loc b = G.loc b) (hhd : ∀ b, (st.bx b).isSome = true → G'.hd b = G.hd b)
  (hw : ∀ β, G.S β → w'.heap[β]? = w.heap[β]?)
  (hb : ∀ b k, bx' b = some k → (st.bx b = some k ∧ G'.more b = G.more b ∧ ∀ β, k.real = true → G.has b β → w'.heap[β]? = w.heap[β]?) ∨ (Em P w' G' b k ∧ ∀ c, c ∈ k.names → (bx' c).isSome = true))
  (hat : ∀ b k β, bx' b = some k → k.real = true → G'.has b β → Qk X b β ∧ β < w'.heap.size ∧ ¬ G'.S β)
  (hinj : ∀ b c k l β, bx' b = some k → bx' c = some l → k.real = true → l.real = true → G'.has b β → G'.has c β → b = c)
  (hS1 : ∀ β, G'.S β → β < w'.heap.size) (hS2 : ∀ β, G'.S β → X.S0 β ∨ X.w0.heap.size ≤ β)
  (hbel : Dw X.L X.w0.heap.size X.w0 w') (hL : ∀ b, Bv b = true → G'.loc b = G.loc b ∧ G'.hd b = G.hd b ∧ G'.more b = G.more b) : Dd P X G' { st with bx := bx' } a w' := by
 let G2 : Gh := { G' with more := G.more }
 have hext : G.ext G2 (fun b => (st.bx b).isSome = true) := ⟨hS, hloc, hhd, fun _ _ => rfl⟩
 have e0 : ({ G2 with more := G'.more } : Gh) = G' := rfl
 exact {
  S_lt := hS1
  S_src := hS2
  S_0 := fun β hβ => hS β (h.S_0 β hβ)
  S0_lt := h.S0_lt
  blk := fun b k hk => by
   rcases hb b k hk with ⟨h1, h2, h3⟩ | ⟨h1, _⟩
   ·have := (h.blk b k h1).mono hext (by simp [h1]) hw h3 fun c hc => h.liveB b k h1 c hc
    have := this.moreI (m := G'.more) h2
    rwa [e0] at this
   ·exact h1
  at_ok := hat
  at_inj := hinj
  env := fun s d hs => by
   have := ((h.env s d hs).mono hext hw (h.live s d hs)).moreI (m := G'.more)
   rwa [e0] at this
  live := fun s d hs b hb' => hlive b (h.live s d hs b hb')
  liveB := fun b k hk c hc => by
   rcases hb b k hk with ⟨h1, _⟩ | ⟨_, h2⟩
   ·exact hlive c (h.liveB b k h1 c hc)
   ·exact h2 c hc
  tsz := h.tsz
  nlt := h.nlt
  lent := fun b hb => by
   obtain ⟨h1, h2, h3⟩ := hL b (Mv hb)
   rw [h1, h2, h3]; exact h.lent b hb
  defers := h.defers
  below := hbel
  gok := h.gok.mono hw hS }
def inner (e : Nat) (cols : List Ow) (rows : List (List T)) : BL := if cols.all VJ then .vec e rows else .dvec e cols rows
theorem Sa {cols : List Ow} (h : cols.all VJ = true) (j : Nat) : cols.getD j .s = .s := by
 rw [lD]
 cases hc : cols[j]? with
 | none => rfl
 | some o => exact Ue (zA2.1 h o (lM hc))
theorem Jv {e : Nat} {cols : List Ow} {rows : List (List T)} : (inner e cols rows).real = true := by unfold inner; split <;> rfl
theorem S5 {e : Nat} {cols : List Ow} {rows : List (List T)} : (inner e cols rows).names = [] := by unfold inner; split <;> rfl
theorem WO {G : Gh} {w : World} {e : Nat} {cols : List Ow} {R : Nat → Prop} {v : Value} {rows : List (List T)} (h : Q2 w G.S (.x e cols) R v (.sl rows)) :
  ∃ (l : Option Nat) (m : Nat → Prop), (∀ β, l = some β ∨ m β → R β) ∧ (∃ p n q, v = .slice p n q) ∧ ∀ (G' : Gh) (b : Nat), (∀ β, G.S β → G'.S β) → G'.loc b = l → G'.hd b = v → (∀ β, m β → G'.more b β) → Em P w G' b (inner e cols rows) := by
 cases h with
 | nil a =>
  refine ⟨none, fun _ => False, fun β h => (h.elim (fun h => by cases h) (fun h => h.elim)), ⟨_, _, _, rfl⟩, fun G' b hS h1 h2 h3 => ?_⟩
  unfold inner
  split
  ·exact .inl ⟨a, h2, rfl, h1⟩
  ·exact .inl ⟨a, h2, rfl, h1⟩
 | sl β cap _ _ arr el _ Rf k1 k2 k3 k4 k5 k6 k7 k8 k9 =>
  refine ⟨some β, fun γ => ∃ i j, Rf i j γ, fun γ h => ?_, ⟨_, _, _, rfl⟩, fun G' b hS h1 h2 h3 => ?_⟩
  ·rcases h with h | ⟨i, j, h⟩
   ·cases h; exact k6
   ·exact k7 i j γ h
  ·unfold inner
   split
   ·rename_i hall
    refine .inr ⟨β, cap, arr, el, h1, h2, k1, k2, k3, k4, fun i row j t hi hj => ?_⟩
    have := k5 i row j t hi hj
    rw [Sa hall] at this
    cases this with
    | s h => exact h.mono (fun _ _ => rfl) hS
   ·exact .inr ⟨β, cap, arr, el, Rf, h1, h2, k1, k2, k3, k4, fun i row j t hi hj => (k5 i row j t hi hj).mono (fun _ _ => rfl) hS (fun _ h => h), fun i j γ hγ => h3 γ ⟨i, j, hγ⟩, k8, k9⟩
theorem Xu {G : Gh} {w : World} {b e : Nat} {cols : List Ow} {rows : List (List T)} (h : Em P w G b (inner e cols rows)) : Q2 w G.S (.x e cols) (G.has b) (G.hd b) (.sl rows) := by
 unfold inner at h
 split at h
 ·rename_i hall
  rcases h with ⟨a, h1, h2, _⟩ | ⟨β, cap, arr, el, h0, h1, h2, h3, h4, h5, h6⟩
  ·rw [h1, h2]; exact .nil a e cols
  ·rw [h1]
   exact .sl β cap e cols arr el rows (fun _ _ _ => False) h2 h3 h4 h5 (fun i row j t hi hj => by rw [Sa hall]; exact .s (h6 i row j t hi hj)) (.inl h0) (fun _ _ _ h => h.elim) (fun _ _ h => h) (fun _ _ _ _ _ h => h.elim)
 ·rcases h with ⟨a, h1, h2, _⟩ | ⟨β, cap, arr, el, Rf, h0, h1, h2, h3, h4, h5, h6, h7, h8, h9⟩
  ·rw [h1, h2]; exact .nil a e cols
  ·rw [h1]
   exact .sl β cap e cols arr el rows Rf h2 h3 h4 h5 h6 (.inl h0) (fun i j γ hγ => .inr (h7 i j γ hγ)) h8 h9
section run
variable {dr : Bool} {Q : St → Prop} {r i : Nat} {st : St} {log : List (Nat × CO)} {o : Oper} {gs : List (Operand × D)}
theorem ad {x : Operand} {b e ix k s e2 : Nat} {cols cols2 : List Ow} {rows rows2 : List (List T)} {row : List T} {t : TypeId} (hat : At st.env ops i X.n (.load t x) s gs)
  (hx : opd st.env x = some (.e (.one (.eptr b e ix k)))) (ht : FH P t false = true) (hb : st.bx b = some (.dvec e cols rows)) (hrow : rows[ix]? = some row) (hc : row[k]? = some (.sl rows2)) (hcol : cols.getD k .s = .x e2 cols2) (hbl : Bv b = false) (hnew : st.bx s = none)
  (next : Bc P X ops dr Q r (i + 1) (CO.upd ⟨gs ++ [(x, .e (.one (.eptr b e ix k)))], [(b, .dvec e cols rows)], some s, some (.e (.one (.own s))), [(b, .hol e cols ix k s rows), (s, inner e2 cols2 rows2)], [s]⟩ st) ((i, ⟨gs ++ [(x, .e (.one (.eptr b e ix k)))], [(b, .dvec e cols rows)], some s, some (.e (.one (.own s))), [(b, .hol e cols ix k s rows), (s, inner e2 cols2 rows2)], [s]⟩) :: log)) : Bc P X ops dr Q (r + 1) i st log := by
 obtain ⟨o, ho, hop, hd, hn, hg, hgp⟩ := hat.out
 refine Bc.step next ⟨Am.2 ⟨hgp, hx, trivial⟩, ⟨hb, trivial⟩, hnew, trivial⟩ (LR.value ho hg rfl hd.symm (DP hd hn) ?_)
 intro G st a w hs hpre
 have hx := (Am.1 hpre.r).2.1
 have hb := hpre.b.1
 have hnew := hpre.n.1
 have hsb : s ≠ b := fun e => by rw [e, hb] at hnew; cases hnew
 obtain ⟨β, hβ, hv⟩ : ER P w G (a.eval x) (.eptr b e ix k) := hs.opd hx
 obtain ⟨β', cap, arr, el, Rf, h0, h1, h2, h3, h4, h5, h6, h7, h8, h9, h10⟩ := UY (hs.blk b _ hb) hrow
 rw [hβ] at h0; cases h0
 have hre := h5 ix row hrow
 have hk := AF hc
 have hcell := h6 ix row k _ hrow hc
 rw [hcol] at hcell
 obtain ⟨l, m, g1, g2, g3⟩ := WO (P := P) hcell
 let G' : Gh := { S := G.S, loc := fun c => if c = s then l else G.loc c, hd := fun c => if c = s then Av arr (ix * e + k) else G.hd c, more := fun c => if c = s then m else if c = b then (fun γ => G.more b γ ∧ ¬ Rf ix k γ) else G.more c }
 have hsome : ∀ c, (st.bx c).isSome = true → c ≠ s := fun c hc e => by rw [e, hnew] at hc; cases hc
 have hbx : ∀ c, Bo st.bx [(b, .hol e cols ix k s rows), (s, inner e2 cols2 rows2)] c = if c = b then some (.hol e cols ix k s rows) else if c = s then some (inner e2 cols2 rows2) else st.bx c := fun c => rfl
 have hasS : ∀ γ, G'.has s γ → Rf ix k γ := fun γ h => by
  unfold Gh.has at h
  simp only [G', if_true] at h
  exact g1 γ h
 have hasB : ∀ γ, G'.has b γ → G.has b γ ∧ ¬ Rf ix k γ := fun γ h => by
  unfold Gh.has at h
  simp only [G', if_neg hsb.symm, if_true] at h
  rcases h with h | h
  ·refine ⟨.inl h, fun hr => ?_⟩
   rw [hβ] at h; cases h
   exact h8 ix k hr
  ·exact ⟨.inr h.1, h.2⟩
 have hasO : ∀ c γ, c ≠ s → c ≠ b → (G'.has c γ ↔ G.has c γ) := fun c γ h1 h2 => by
  unfold Gh.has
  simp only [G', if_neg h1, if_neg h2]
 have hbl2 := hs.nl hn
 have key : Dd P X G' ⟨st.env, Bo st.bx [(b, .hol e cols ix k s rows), (s, inner e2 cols2 rows2)]⟩ a w := by
  refine hs.frame2 ?_ (fun _ h => h) (fun c hc => by simp only [G']; rw [if_neg (hsome c hc)]) (fun c hc => by simp only [G']; rw [if_neg (hsome c hc)]) (fun _ _ => rfl) ?_ ?_ ?_ hs.S_lt hs.S_src hs.below (fun c hc => ?_)
  ·intro c hc; rw [hbx]; split
   ·rfl
   ·split
    ·rfl
    ·exact hc
  ·intro c kk hc
   rw [hbx] at hc
   split at hc
   ·rename_i e1; subst e1; cases hc
    refine .inr ⟨⟨β, cap, arr, el, fun i j γ => Rf i j γ ∧ ¬ (i = ix ∧ j = k), ?_, ?_, h2, h3, h4, h5, ?_, ?_, fun i j h => h8 i j h.1, fun i j i' j' γ h h' => h9 i j i' j' γ h.1 h'.1, ?_, ?_⟩, fun c' hc' => ?_⟩
    ·simp only [G', if_neg hsb.symm]; exact hβ
    ·simp only [G', if_neg hsb.symm]; exact h1
    ·intro i0 row0 j0 t0 hi hj hne
     exact (h6 i0 row0 j0 t0 hi hj).mono (fun _ _ => rfl) (fun _ h => h) (fun γ hγ => ⟨hγ, hne⟩)
    ·intro i0 j0 γ hγ
     simp only [G', if_neg hsb.symm, if_true]
     exact ⟨h7 i0 j0 γ hγ.1, fun hr => hγ.2 (h9 i0 j0 ix k γ hγ.1 hr)⟩
    ·simp only [G', if_true]
    ·simp only [G', if_true]; exact g2
    ·have : c' = s := by simpa [BL.names] using hc'
     subst this
     rw [hbx, if_neg hsb, if_pos rfl]; rfl
   ·rename_i e1
    split at hc
    ·rename_i e2'; subst e2'; cases hc
     exact .inr ⟨g3 G' c (fun _ h => h) (by simp [G']) (by simp [G']) (fun γ hγ => by simp [G', hγ]), fun c' hc' => by rw [S5] at hc'; cases hc'⟩
    ·rename_i e2'
     exact .inl ⟨hc, by simp only [G', if_neg e1, if_neg e2'], fun _ _ _ => rfl⟩
  ·intro c kk γ hc hr hγ
   rw [hbx] at hc
   split at hc
   ·rename_i e1; subst e1
    exact hs.at_ok c _ γ hb rfl (hasB γ hγ).1
   ·rename_i e1
    split at hc
    ·rename_i e2'; subst e2'
     have := hs.at_ok b _ γ hb rfl (.inr (h7 ix k γ (hasS γ hγ)))
     exact ⟨.new (this.1.1 hbl), this.2⟩
    ·rename_i e2'
     exact hs.at_ok c kk γ hc hr ((hasO c γ e2' e1).1 hγ)
  ·intro c c' kk kk' γ hc hc' hr hr' hγ hγ'
   rw [hbx] at hc hc'
   have cl : ∀ c kk, (if c = b then some (BL.hol e cols ix k s rows) else if c = s then some (inner e2 cols2 rows2) else st.bx c) = some kk → kk.real = true → G'.has c γ → (c = b ∧ G.has b γ ∧ ¬ Rf ix k γ) ∨ (c = s ∧ Rf ix k γ) ∨ (c ≠ b ∧ st.bx c = some kk ∧ G.has c γ) := by
    intro c kk hc hr hγ
    split at hc
    ·rename_i e1; subst e1; exact .inl ⟨rfl, hasB γ hγ⟩
    ·rename_i e1
     split at hc
     ·rename_i e2'; subst e2'; exact .inr (.inl ⟨rfl, hasS γ hγ⟩)
     ·rename_i e2'; exact .inr (.inr ⟨e1, hc, (hasO c γ e2' e1).1 hγ⟩)
   rcases cl c kk hc hr hγ with ⟨q1, q2, q3⟩ | ⟨q1, q2⟩ | ⟨q1, q2, q3⟩ <;> rcases cl c' kk' hc' hr' hγ' with ⟨q1', q2', q3'⟩ | ⟨q1', q2'⟩ | ⟨q1', q2', q3'⟩
   ·rw [q1, q1']
   ·exact (q3 q2').elim
   ·exact (q1' (hs.at_inj c' b _ _ γ q2' hb hr' rfl q3' q2)).elim
   ·exact (q3' q2).elim
   ·rw [q1, q1']
   ·exact (q1' (hs.at_inj c' b _ _ γ q2' hb hr' rfl q3' (.inr (h7 ix k γ q2)))).elim
   ·exact (q1 (hs.at_inj c b _ _ γ q2 hb hr rfl q3 q2')).elim
   ·exact (q1 (hs.at_inj c b _ _ γ q2 hb hr rfl q3 (.inr (h7 ix k γ q2')))).elim
   ·exact hs.at_inj c c' kk kk' γ q2 q2' hr hr' q3 q3'
  ·have e1 : c ≠ s := fun e => by rw [e, hbl2] at hc; cases hc
   have e2' : c ≠ b := fun e => by rw [e, hbl] at hc; cases hc
   refine ⟨?_, ?_, ?_⟩ <;> simp only [G', if_neg e1, if_neg e2']
 refine ⟨Av arr (ix * e + k), w, G', ?_, key, ?_⟩
 ·simp only [execOp, hop, hv]
  exact Ai (J0 ht h2 (by omega)) rfl
 ·rintro d ⟨⟩
  refine ⟨⟨by simp [G'], g2⟩, fun b' hb' => ?_⟩
  have : b' = s := by simpa [D.names, E.names, C.names] using hb'
  subst this
  rw [hbx, if_neg hsb, if_pos rfl]; rfl
theorem WG {x y : Operand} {b c c0 e ix k e2 : Nat} {cols cols2 : List Ow} {rows rows2 rows' : List (List T)} {row : List T} {t : TypeId} (hat : RM ops i = some (.store t x y))
  (hx : opd st.env x = some (.e (.one (.eptr b e ix k)))) (hy : opd st.env y = some (.e (.one (.own c)))) (hb : st.bx b = some (.hol e cols ix k c0 rows)) (hc : st.bx c = some (inner e2 cols2 rows2)) (hcol : cols.getD k .s = .x e2 cols2) (hrow : rows[ix]? = some row) (hk : k < e) (hz : HQ P t 1 = true)
  (hbl : Bv b = false) (hcl : Bv c = false) (hr : rows.set ix (row.set k (.sl rows2)) = rows')
  (next : Bc P X ops dr Q r (i + 1) (CO.upd ⟨[(x, .e (.one (.eptr b e ix k))), (y, .e (.one (.own c)))], [(b, .hol e cols ix k c0 rows), (c, inner e2 cols2 rows2)], none, none, [(b, .dvec e cols rows'), (c, .gone)], []⟩ st) ((i, ⟨[(x, .e (.one (.eptr b e ix k))), (y, .e (.one (.own c)))], [(b, .hol e cols ix k c0 rows), (c, inner e2 cols2 rows2)], none, none, [(b, .dvec e cols rows'), (c, .gone)], []⟩) :: log)) : Bc P X ops dr Q (r + 1) i st log := by
 obtain ⟨o, ho, hop, hd, hgn⟩ := MS hat
 have hg : VM ops o [] := .none hgn
 have hcb : c ≠ b := fun e' => by rw [e', hb] at hc; unfold inner at hc; split at hc <;> cases hc
 refine Bc.step next ⟨⟨hx, hy, trivial⟩, ⟨hb, hc, trivial⟩, trivial⟩ (LR.skip (rs := [(x, .e (.one (.eptr b e ix k))), (y, .e (.one (.own c)))]) ho hg rfl hd rfl ?_)
 intro G st a w hs hpre
 obtain ⟨hx, hy, _⟩ := hpre.r
 obtain ⟨hb, hc, _⟩ := hpre.b
 subst hr
 obtain ⟨β, hβ, hv⟩ : ER P w G (a.eval x) (.eptr b e ix k) := hs.opd hx
 obtain ⟨hy1, pp, pn, pq, hy2⟩ : ER P w G (a.eval y) (.own c) := hs.opd hy
 obtain ⟨β', cap, arr, el, Rf, h0, h1, h2, h3, h4, h5, h6, h7, h8, h9, h10, h11⟩ := hs.blk b _ hb
 rw [hβ] at h0; cases h0
 have hX := Xu (hs.blk c _ hc)
 have hatb := hs.at_ok b _ β hb rfl (.inl hβ)
 have hre := h5 ix row hrow
 have hix := AF hrow
 have hbnd : ix * e + e ≤ arr.size := by rw [h4, ← zC1]; exact zA4 e (zG3 hix h3)
 have hone : He (a.eval y) = true := by rw [hy2]; rfl
 have hst := Fm (P := P) (β := β) (el := el) [a.eval y] w (ix * e + k) 0 arr h2 (by simp; omega) (fun v hv => by simp at hv; subst hv; exact hone)
 rw [zF7] at hst
 let G' : Gh := { G with more := fun d => if d = b then (fun γ => G.more b γ ∨ G.has c γ) else G.more d }
 let arr' := FB arr (ix * e + k) [a.eval y]
 let w' := Gm w β (.cells arr' el (0, 0))
 have hover : ∀ j, Av arr' j = if j = ix * e + k then a.eval y else Av arr j := fun j => by
  show Av (FB arr (ix * e + k) [a.eval y]) j = _
  rw [Fj _ _ _ _ (by simp; omega)]
  simp only [zB8]
  by_cases hj : j = ix * e + k
  ·subst hj; rw [if_pos (by omega), if_pos rfl]; simp
  ·rw [if_neg (by omega), if_neg hj]
 have hheap : ∀ γ, γ ≠ β → w'.heap[γ]? = w.heap[γ]? := fun γ hγ => by show (Gm w β _).heap[γ]? = _; rw [DX, if_neg (fun h => hγ h.1)]
 have hsz : w'.heap.size = w.heap.size := by show (Gm w β _).heap.size = _; simp [Gm]
 have hcβ : ∀ γ, G.has c γ → γ ≠ β := fun γ h e' => hcb (hs.at_inj c b _ _ γ hc hb Jv rfl h (.inl (e' ▸ hβ)))
 have hbx : ∀ d, Bo st.bx [(b, .dvec e cols (rows.set ix (row.set k (.sl rows2)))), (c, .gone)] d = if d = b then some (.dvec e cols (rows.set ix (row.set k (.sl rows2)))) else if d = c then some .gone else st.bx d := fun d => rfl
 have hasO : ∀ d γ, d ≠ b → (G'.has d γ ↔ G.has d γ) := fun d γ h => by unfold Gh.has; simp only [G', if_neg h]
 have hasB : ∀ γ, G'.has b γ → G.has b γ ∨ G.has c γ := fun γ h => by
  unfold Gh.has at h
  simp only [G', if_true] at h
  rcases h with h | h | h
  ·exact .inl (.inl h)
  ·exact .inl (.inr h)
  ·exact .inr h
 have hix2 : ∀ i0 j0, j0 < e → i0 * e + j0 = ix * e + k → i0 = ix ∧ j0 = k := by
  intro i0 j0 hj0 he
  rcases Nat.lt_trichotomy i0 ix with h | h | h
  ·have : i0 * e + e ≤ ix * e := by rw [← zC1]; exact zA4 e h
   omega
  ·subst h; exact ⟨rfl, by omega⟩
  ·have : ix * e + e ≤ i0 * e := by rw [← zC1]; exact zA4 e h
   omega
 refine ⟨w', G', ?_, ?_⟩
 ·simp only [execOp, hop, hv]
  have hcells : (a.eval y).cells.toList = [a.eval y] := by rw [hy2]; rfl
  refine Ai (a := ()) (w1 := w') ?_ rfl
  have := Ln (P := P) (n := 1) hz (v := a.eval y) (by rw [hy2]; rfl) h2 (show ix * e + k + 1 ≤ arr.size by omega) (fun u hu => by rw [hcells] at hu; simp at hu; subst hu; exact hone)
  rw [hcells] at this
  exact this
 ·refine hs.frame2 (fun d hd => ?_) (fun _ h => h) (fun _ _ => rfl) (fun _ _ => rfl) (fun γ hγ => hheap γ fun e' => hatb.2.2 (e' ▸ hγ)) ?_ ?_ ?_ (fun γ hγ => by rw [hsz]; exact hs.S_lt γ hγ) hs.S_src (KB hs.below hatb.1.2 _) (fun d hd => ?_)
  ·rw [hbx]; split
   ·rfl
   ·split
    ·rfl
    ·exact hd
  ·intro d kk hd
   rw [hbx] at hd
   split at hd
   ·rename_i e1; subst e1; cases hd
    refine .inr ⟨.inr ⟨β, cap, arr', el, fun i0 j0 γ => if i0 = ix ∧ j0 = k then G.has c γ else Rf i0 j0 γ, hβ, by rw [zG6]; exact h1, by show (Gm w β _).heap[β]? = _; rw [DX, if_pos ⟨rfl, hatb.2.1⟩], by rw [zG6]; exact h3, by show (FB _ _ _).size = _; rw [GG, h4], ?_, ?_, ?_, ?_, ?_⟩, fun c' hc' => by cases hc'⟩
    ·intro j0 row' hj
     rcases ID hj with ⟨_, rfl⟩ | ⟨_, hj⟩
     ·rw [zG6]; exact hre
     ·exact h5 j0 row' hj
    ·intro i0 row' j0 t0 hi hj
     have hj0 : j0 < e := by
      have := AF hj
      rcases ID hi with ⟨_, rfl⟩ | ⟨_, hi⟩
      ·rw [zG6] at this; omega
      ·have := h5 i0 row' hi; omega
     rw [hover]
     by_cases hh : i0 = ix ∧ j0 = k
     ·obtain ⟨rfl, rfl⟩ := hh
      rw [if_pos rfl, hcol]
      have ht0 : t0 = .sl rows2 := by
       rcases ID hi with ⟨_, rfl⟩ | ⟨hne, _⟩
       ·rcases ID hj with ⟨_, rfl⟩ | ⟨hne, _⟩
        ·rfl
        ·exact (hne rfl).elim
       ·exact (hne rfl).elim
      subst ht0
      rw [hy1]
      refine hX.mono (fun γ hγ => hheap γ ?_) (fun _ h => h) (fun γ hγ => by simp only [and_self, if_true]; exact hγ)
      rcases hγ with h | h
      ·exact fun e' => hatb.2.2 (e' ▸ h)
      ·exact hcβ γ h
     ·rw [if_neg (fun h => hh (hix2 i0 j0 hj0 h))]
      have hold : ∃ row0, rows[i0]? = some row0 ∧ row0[j0]? = some t0 := by
       rcases ID hi with ⟨hii, rfl⟩ | ⟨_, hi⟩
       ·subst hii
        rcases ID hj with ⟨hjj, _⟩ | ⟨_, hj⟩
        ·exact (hh ⟨rfl, hjj⟩).elim
        ·exact ⟨row, hrow, hj⟩
       ·exact ⟨row', hi, hj⟩
      obtain ⟨row0, q1, q2⟩ := hold
      refine (h6 i0 row0 j0 t0 q1 q2 hh).mono (fun γ hγ => hheap γ ?_) (fun _ h => h) (fun γ hγ => by simp only [if_neg hh]; exact hγ)
      rcases hγ with h | h
      ·exact fun e' => hatb.2.2 (e' ▸ h)
      ·exact fun e' => h8 i0 j0 (e' ▸ h)
    ·intro i0 j0 γ hγ
     simp only [G', if_true]
     split at hγ
     ·exact .inr hγ
     ·exact .inl (h7 i0 j0 γ hγ)
    ·intro i0 j0 hγ
     split at hγ
     ·exact hcβ β hγ rfl
     ·exact h8 i0 j0 hγ
    ·intro i0 j0 i1 j1 γ hγ hγ'
     have cross : ∀ i j, Rf i j γ → G.has c γ → False := fun i j hr hh => hcb (hs.at_inj c d _ _ γ hc hb Jv rfl hh (.inr (h7 i j γ hr)))
     split at hγ <;> split at hγ'
     ·rename_i q q'; exact ⟨q.1.trans q'.1.symm, q.2.trans q'.2.symm⟩
     ·exact (cross _ _ hγ' hγ).elim
     ·exact (cross _ _ hγ hγ').elim
     ·exact h9 i0 j0 i1 j1 γ hγ hγ'
   ·rename_i e1
    split at hd
    ·cases hd; exact .inr ⟨trivial, fun c' hc' => by cases hc'⟩
    ·rename_i e2'
     refine .inl ⟨hd, by simp only [G', if_neg e1], fun γ hr hγ => hheap γ fun e' => e1 (hs.at_inj d b kk _ γ hd hb hr rfl hγ (.inl (e' ▸ hβ)))⟩
  ·intro d kk γ hd hr hγ
   rw [hbx] at hd
   rw [hsz]
   split at hd
   ·rename_i e1; subst e1
    rcases hasB γ hγ with h | h
    ·exact hs.at_ok d _ γ hb rfl h
    ·have := hs.at_ok c _ γ hc Jv h
     exact ⟨.new (this.1.1 hcl), this.2⟩
   ·rename_i e1
    split at hd
    ·cases hd; cases hr
    ·exact hs.at_ok d kk γ hd hr ((hasO d γ e1).1 hγ)
  ·intro d d' kk kk' γ hd hd' hr hr' hγ hγ'
   rw [hbx] at hd hd'
   have cl : ∀ d kk, (if d = b then some (BL.dvec e cols (rows.set ix (row.set k (.sl rows2)))) else if d = c then some .gone else st.bx d) = some kk → kk.real = true → G'.has d γ → (d = b ∧ (G.has b γ ∨ G.has c γ)) ∨ (d ≠ b ∧ d ≠ c ∧ st.bx d = some kk ∧ G.has d γ) := by
    intro d kk hd hr hγ
    split at hd
    ·rename_i e1; subst e1; exact .inl ⟨rfl, hasB γ hγ⟩
    ·rename_i e1
     split at hd
     ·cases hd; cases hr
     ·rename_i e2'; exact .inr ⟨e1, e2', hd, (hasO d γ e1).1 hγ⟩
   rcases cl d kk hd hr hγ with ⟨q1, q2⟩ | ⟨q1, q2, q3, q4⟩ <;> rcases cl d' kk' hd' hr' hγ' with ⟨q1', q2'⟩ | ⟨q1', q2', q3', q4'⟩
   ·rw [q1, q1']
   ·rcases q2 with h | h
    ·exact (q1' (hs.at_inj d' b _ _ γ q3' hb hr' rfl q4' h)).elim
    ·exact (q2' (hs.at_inj d' c _ _ γ q3' hc hr' Jv q4' h)).elim
   ·rcases q2' with h | h
    ·exact (q1 (hs.at_inj d b _ _ γ q3 hb hr rfl q4 h)).elim
    ·exact (q2 (hs.at_inj d c _ _ γ q3 hc hr Jv q4 h)).elim
   ·exact hs.at_inj d d' kk kk' γ q3 q3' hr hr' q4 q4'
  ·have e1 : d ≠ b := fun e' => by rw [e', hbl] at hd; cases hd
   refine ⟨rfl, rfl, ?_⟩
   simp only [G', if_neg e1]
end run
def Ng (cols : List Ow) : Nat → List T → Option (List T)
 | _, [] => some []
 | j, t :: ts => match Ng cols (j + 1) ts with
  | none => none
  | some us => if VJ (cols.getD j .s) then some (t :: us) else match t with
   | .nil0 => some (.sl [] :: us)
   | _ => none
theorem LL {cols : List Ow} : ∀ {ts us : List T} {j0 : Nat}, Ng cols j0 ts = some us → us.length = ts.length ∧ ∀ (j : Nat) (u : T), us[j]? = some u → ∃ t, ts[j]? = some t ∧ ((VJ (cols.getD (j0 + j) .s) = true ∧ u = t) ∨ (VJ (cols.getD (j0 + j) .s) = false ∧ t = .nil0 ∧ u = .sl []))
 | [], us, j0, h => by cases h; exact ⟨rfl, fun j u hj => by simp at hj⟩
 | t :: ts, us, j0, h => by
  simp only [Ng] at h
  cases hr : Ng cols (j0 + 1) ts with
  | none => rw [hr] at h; cases h
  | some vs =>
   rw [hr] at h
   obtain ⟨g1, g2⟩ := LL hr
   have step : ∀ (x : T), ((VJ (cols.getD j0 .s) = true ∧ x = t) ∨ (VJ (cols.getD j0 .s) = false ∧ t = .nil0 ∧ x = .sl [])) → us = x :: vs → us.length = (t :: ts).length ∧ ∀ (j : Nat) (u : T), us[j]? = some u → ∃ t', (t :: ts)[j]? = some t' ∧ ((VJ (cols.getD (j0 + j) .s) = true ∧ u = t') ∨ (VJ (cols.getD (j0 + j) .s) = false ∧ t' = .nil0 ∧ u = .sl [])) := by
    intro x hx hu
    subst hu
    refine ⟨by simp [g1], fun j u hj => ?_⟩
    cases j with
    | zero => simp at hj; subst hj; exact ⟨t, rfl, hx⟩
    | succ j =>
     obtain ⟨t', q1, q2⟩ := g2 j u (by simpa using hj)
     rw [show j0 + 1 + j = j0 + (j + 1) from by omega] at q2
     exact ⟨t', by simpa using q1, q2⟩
   by_cases hs : VJ (cols.getD j0 .s) = true
   ·simp only [hs, if_true] at h
    cases h; exact step t (.inl ⟨hs, rfl⟩) rfl
   ·simp only [if_neg hs] at h
    cases t with
    | nil0 => cases h; exact step _ (.inr ⟨by simpa using hs, rfl, rfl⟩) rfl
    | _ => cases h
theorem QV {st : St} (b e : Nat) (cols : List Ow) (rows rows' : List (List T)) (hb : st.bx b = some (.vec e rows)) (hr : rows.mapM (Ng cols 0) = some rows') : GA P X st (St.setB st b (.dvec e cols rows')) := by
 rintro a w ⟨G, h⟩
 obtain ⟨g1, g2⟩ := MM hr
 refine ⟨G, h.frame (bx' := (St.setB st b (.dvec e cols rows')).bx) ?_ ⟨fun _ h => h, fun _ _ => rfl, fun _ _ => rfl, fun _ _ => rfl⟩ (fun _ _ => rfl) ?_ ?_ ?_ h.S_lt h.S_src h.below (fun _ _ => ⟨rfl, rfl, rfl⟩)⟩
 ·intro c hc; simp only [St.setB]; split <;> simp [hc]
 ·intro c k hc
  simp only [St.setB] at hc
  split at hc
  ·rename_i e1; subst e1; cases hc
   refine .inr ⟨?_, fun c' hc' => by cases hc'⟩
   rcases h.blk c _ hb with ⟨a0, h1, h2, h3⟩ | ⟨β, cap, arr, el, h0, h1, h2, h3, h4, h5, h6⟩
   ·refine .inl ⟨a0, h1, ?_, h3⟩
    subst h2
    exact zD2 (by simpa using g1)
   ·refine .inr ⟨β, cap, arr, el, fun _ _ _ => False, h0, by rw [g1]; exact h1, h2, by rw [g1]; exact h3, h4, ?_, ?_, fun _ _ _ h => h.elim, fun _ _ h => h, fun _ _ _ _ _ h => h.elim⟩
    ·intro i row hi
     obtain ⟨row0, q1, q2⟩ := g2 i row hi
     rw [(LL q2).1]; exact h5 i row0 q1
    ·intro i row j t hi hj
     obtain ⟨row0, q1, q2⟩ := g2 i row hi
     obtain ⟨t0, q3, q4⟩ := (LL q2).2 j t hj
     have hv := h6 i row0 j t0 q1 q3
     rw [zA3] at q4
     rcases q4 with ⟨q5, q6⟩ | ⟨q5, q6, q7⟩
     ·rw [Ue q5, q6]; exact .s hv
     ·subst q6; subst q7
      generalize Av arr (i * e + j) = v at hv
      cases hv with
      | nil0 a' =>
       cases hcol : cols.getD j .s with
       | s => rw [hcol] at q5; cases q5
       | x e2 cols2 => exact .nil a' e2 cols2
  ·exact .inl ⟨hc, fun _ _ _ => rfl⟩
 ·intro c k β hc hr hβ
  simp only [St.setB] at hc
  split at hc
  ·rename_i e1; subst e1; exact h.at_ok _ _ β hb rfl hβ
  ·exact h.at_ok c k β hc hr hβ
 ·intro c c' k k' β hc hc' hr hr' hβ hβ'
  simp only [St.setB] at hc hc'
  have old : ∀ c k, (if c = b then some (BL.dvec e cols rows') else st.bx c) = some k → k.real = true → ∃ k0, st.bx c = some k0 ∧ k0.real = true := by
   intro c k hc hr
   split at hc
   ·rename_i e1; subst e1; exact ⟨_, hb, rfl⟩
   ·exact ⟨k, hc, hr⟩
  obtain ⟨k0, q1, q2⟩ := old c k hc hr
  obtain ⟨k0', q1', q2'⟩ := old c' k' hc' hr'
  exact h.at_inj c c' k0 k0' β q1 q1' q2 q2' hβ hβ'
end Go.Lift
namespace Go.Lift
open Go.RowKit
variable {P : Program} {X : IX} {ops : Array Oper}
theorem Th {w : World} {β off e n len cap : Nat} {arr : Array Value} {el : TypeId} {fz : Nat × Nat} (hb : w.heap[β]? = some (.cells arr el fz)) (h : off + n * e ≤ arr.size) :
  ∃ news : Array Value, (∀ w' : World, w'.heap = w.heap → (Builtin.firstCells e n (.slice (some ⟨β, off, none⟩) len cap)).run P w' = .ok news w') ∧ news.size = n * e ∧ ∀ j, j < n * e → Av news j = Av arr (off + j) :=
 ⟨_, fun w' hw' => Ho (by rw [hw']; exact hb) h, by simp, fun j hj => Ig hj⟩
section run
variable {dr : Bool} {Q : St → Prop} {r i : Nat} {st : St} {log : List (Nat × CO)} {o : Oper} {gs : List (Operand × D)}
structure K1 (w : World) (S : Nat → Prop) (e : Nat) (cols : List Ow) (rows : List (List T)) (Rf : Nat → Nat → Nat → Prop) (f : Nat → Value) : Prop where
 len : ∀ (i : Nat) (row : List T), rows[i]? = some row → row.length = e
 cell : ∀ (i : Nat) (row : List T) (j : Nat) (t : T), rows[i]? = some row → row[j]? = some t → Q2 w S (cols.getD j .s) (Rf i j) (f (i * e + j)) t
 dis : ∀ i j i' j' γ, Rf i j γ → Rf i' j' γ → i = i' ∧ j = j'
theorem K1.ones {w : World} {S : Nat → Prop} {e : Nat} {cols : List Ow} {rows : List (List T)} {Rf : Nat → Nat → Nat → Prop} {arr : Array Value} (h : K1 w S e cols rows Rf (Av arr)) (hs : arr.size = rows.length * e) : ∀ u, u ∈ arr.toList → He u = true := by
 intro u hu
 obtain ⟨k, hk⟩ := zB3.1 hu
 have hk' : arr[k]? = some u := by simpa using hk
 have hlt : k < arr.size := by
  rcases zD3 k arr.size with h' | h'
  ·exact h'
  ·rw [zD5 h'] at hk'; cases hk'
 rcases zH4 e with e0 | e0
 ·rw [e0, Nat.mul_zero] at hs; omega
 have h1 : k / e < rows.length := (Nat.div_lt_iff_lt_mul e0).2 (by omega)
 have h2 : k % e < e := Nat.mod_lt _ e0
 have hrow : rows[k / e]? = some rows[k / e] := by simp [h1]
 have hlen := h.len _ _ hrow
 have hcell : (rows[k / e])[k % e]? = some ((rows[k / e])[k % e]'(by omega)) := by simp [show k % e < rows[k / e].length from by omega]
 have := (h.cell _ _ _ _ hrow hcell).one
 rw [show k / e * e + k % e = k from by rw [Nat.mul_comm]; exact Nat.div_add_mod k e] at this
 simpa [Av, hk'] using this
theorem K1.app {w w' : World} {S : Nat → Prop} {e : Nat} {cols : List Ow} {rows rows2 : List (List T)} {Rf Rf2 : Nat → Nat → Nat → Prop} {f f2 g : Nat → Value} (h1 : K1 w S e cols rows Rf f) (h2 : K1 w S e cols rows2 Rf2 f2)
  (hx : ∀ i j i' j' γ, Rf i j γ → Rf2 i' j' γ → False) (hg1 : ∀ j, j < rows.length * e → g j = f j) (hg2 : ∀ j, j < rows2.length * e → g (rows.length * e + j) = f2 j)
  (hw : ∀ γ, S γ ∨ (∃ i j, Rf i j γ ∨ Rf2 i j γ) → w'.heap[γ]? = w.heap[γ]?) : K1 w' S e cols (rows ++ rows2) (fun i j γ => if i < rows.length then Rf i j γ else Rf2 (i - rows.length) j γ) g := by
 have hlen : ∀ (i : Nat) (row : List T), (rows ++ rows2)[i]? = some row → row.length = e := fun i row hi => by
  rcases zD3 i rows.length with h | h
  ·rw [zC8 h] at hi; exact h1.len i row hi
  ·rw [zB9 h] at hi; exact h2.len _ row hi
 refine ⟨hlen, fun i row j t hi hj => ?_, fun i j i' j' γ hγ hγ' => ?_⟩
 ·have hj' := AF hj
  have he := hlen i row hi
  rcases zD3 i rows.length with h | h
  ·rw [zC8 h] at hi
   have hle : i * e + e ≤ rows.length * e := by rw [← zC1]; exact zA4 e h
   rw [hg1 _ (by omega)]
   exact (h1.cell i row j t hi hj).mono (fun γ hγ => hw γ (hγ.imp id fun hr => ⟨i, j, .inl hr⟩)) (fun _ h => h) (fun γ hγ => by rw [if_pos h]; exact hγ)
  ·rw [zB9 h] at hi
   have hi2 := AF hi
   have hle : (i - rows.length) * e + e ≤ rows2.length * e := by rw [← zC1]; exact zA4 e hi2
   have hsplit : i * e + j = rows.length * e + ((i - rows.length) * e + j) := by
    rw [← zF6, ← zE4, show rows.length + (i - rows.length) = i from by omega]
   rw [hsplit, hg2 _ (by omega)]
   exact (h2.cell _ row j t hi hj).mono (fun γ hγ => hw γ (hγ.imp id fun hr => ⟨_, j, .inr hr⟩)) (fun _ h => h) (fun γ hγ => by rw [if_neg (by omega)]; exact hγ)
 ·split at hγ <;> split at hγ'
  ·exact h1.dis i j i' j' γ hγ hγ'
  ·exact (hx _ _ _ _ γ hγ hγ').elim
  ·exact (hx _ _ _ _ γ hγ' hγ).elim
  ·have := h2.dis _ j _ j' γ hγ hγ'
   exact ⟨by omega, this.2⟩
theorem Dd.dparts {G : Gh} {a : Act} {w : World} (hs : Dd P X G st a w) {x : Operand} {b e : Nat} {cols : List Ow} {rows : List (List T)} (hx : Lift.opd st.env x = some (.e (.one (.own b)))) (hb : st.bx b = some (.dvec e cols rows)) :
  ∃ p cap, a.eval x = .slice p rows.length cap ∧ rows.length ≤ cap ∧ ((rows = [] ∧ cap = 0) ∨ ∃ β arr el, ∃ Rf : Nat → Nat → Nat → Prop, p = some ⟨β, 0, none⟩ ∧ G.loc b = some β ∧ w.heap[β]? = some (.cells arr el (0, 0)) ∧ arr.size = cap * e ∧ K1 w G.S e cols rows Rf (Av arr) ∧ (∀ i j γ, Rf i j γ → G.more b γ) ∧ (∀ i j, ¬ Rf i j β)) := by
 obtain ⟨hR, _⟩ : ER P w G (a.eval x) (.own b) := hs.opd hx
 rcases hs.blk b _ hb with ⟨a0, h1, h2, _⟩ | ⟨β, cap, arr, el, Rf, h0, h1, h2, h3, h4, h5, h6, h7, h8, h9⟩
 ·subst h2; exact ⟨a0, 0, hR.trans h1, zB1 _, .inl ⟨rfl, rfl⟩⟩
 ·exact ⟨_, cap, hR.trans h1, h3, .inr ⟨β, arr, el, Rf, rfl, h0, h2, h4, ⟨h5, h6, h9⟩, h7, h8⟩⟩
theorem Vr {x y : Operand} {t t2 el el2 s b b2 e bytes : Nat} {cols : List Ow} {rows rows2 rows' : List (List T)} {z : Value} (hat : At st.env ops i X.n (.call ⟨.builtin .append, #[x, y], #[t, t2]⟩) s gs)
  (hx : opd st.env x = some (.e (.one (.own b)))) (hb : st.bx b = some (.dvec e cols rows)) (hy : opd st.env y = some (.e (.one (.own b2)))) (hb2 : st.bx b2 = some (.dvec e cols rows2)) (hnew : st.bx s = none) (hne : b ≠ b2)
  (ht : sliceB P t el = true) (ht2 : sliceB P t2 el2 = true) (he : HQ P el e = true) (hby : Fn P el bytes = true) (hbs : bytes ≤ 4096) (hz : DS P el = some z) (hzs : z.cells.size = e) (hlim : rows.length + rows2.length ≤ C2) (hr : rows ++ rows2 = rows') (hbl : Bv b = false) (hbl2 : Bv b2 = false)
  (next : Bc P X ops dr Q r (i + 1) (CO.upd ⟨gs ++ [(x, .e (.one (.own b))), (y, .e (.one (.own b2)))], [(b, .dvec e cols rows), (b2, .dvec e cols rows2)], some s, some (.e (.one (.own s))), (s, .dvec e cols rows') :: H1 [b, b2], [s]⟩ st) ((i, ⟨gs ++ [(x, .e (.one (.own b))), (y, .e (.one (.own b2)))], [(b, .dvec e cols rows), (b2, .dvec e cols rows2)], some s, some (.e (.one (.own s))), (s, .dvec e cols rows') :: H1 [b, b2], [s]⟩) :: log)) : Bc P X ops dr Q (r + 1) i st log := by
 obtain ⟨o, ho, hop, hd, hn, hg, hgp⟩ := hat.out
 refine Bc.step next ⟨Am.2 ⟨hgp, hx, hy, trivial⟩, ⟨hb, hb2, trivial⟩, hnew, trivial⟩ (LR.value ho hg rfl hd.symm (DP hd hn) ?_)
 intro G st a w hs hpre
 obtain ⟨hx, hy, _⟩ := (Am.1 hpre.r).2
 obtain ⟨hb, hb2, _⟩ := hpre.b
 have hnew := hpre.n.1
 subst hr
 have hsb : s ≠ b := fun e' => by rw [e', hb] at hnew; cases hnew
 have hsb2 : s ≠ b2 := fun e' => by rw [e', hb2] at hnew; cases hnew
 have hnl := hs.nl hn
 obtain ⟨p, cap, hx1, hx2, hx3⟩ := hs.dparts hx hb
 obtain ⟨p2, cap2, hy1, hy2, hy3⟩ := hs.dparts hy hb2
 have hbx : ∀ c, Bo st.bx ((s, .dvec e cols (rows ++ rows2)) :: H1 [b, b2]) c = if c = s then some (.dvec e cols (rows ++ rows2)) else if c = b then some .gone else if c = b2 then some .gone else st.bx c := fun c => rfl
 have hrun : ∀ (v : Value) (w' : World), (Builtin.append_ #[t, t2] o.type #[a.eval x, a.eval y]).run P w = .ok v w' → (execOp a.eval o).run P w = .ok (.value v) w' := by
  intro v w' h
  simp only [execOp, hop]
  refine Gi fun cs => ?_
  simp only [zG1, zC7, zI7, builtin]
  exact Ai h rfl
 -- the source's cells
 have hsrc : ∃ news Rf2, (∀ w' : World, w'.heap = w.heap → (Builtin.firstCells e rows2.length (a.eval y)).run P w' = .ok news w') ∧ news.size = rows2.length * e ∧ K1 w G.S e cols rows2 Rf2 (Av news) ∧ (∀ i j γ, Rf2 i j γ → G.has b2 γ) := by
  rcases hy3 with ⟨h1, h2⟩ | ⟨β2, arr2, el2', Rf2, q1, q2, q3, q4, q5, q6, q7⟩
  ·subst h1
   obtain ⟨news, k1, k2, k3⟩ := E7 (P := P) (w := w) (a := p2) (len := 0) (cap := cap2) (e := e) (S := G.S)
   refine ⟨news, fun _ _ _ => False, by rw [hy1]; exact k1, by simpa using k3, ⟨fun i row h => by simp at h, fun i row j t h => by simp at h, fun _ _ _ _ _ h => h.elim⟩, fun _ _ _ h => h.elim⟩
  ·subst q1
   have hle : 0 + rows2.length * e ≤ arr2.size := by rw [q4, zA3]; exact zA4 e hy2
   obtain ⟨news, k1, k2, k3⟩ := Th (P := P) (len := rows2.length) (cap := cap2) q3 hle
   refine ⟨news, Rf2, by rw [hy1]; exact k1, k2, ⟨q5.len, fun i row j t hi hj => ?_, q5.dis⟩, fun i j γ h => .inr (q6 i j γ h)⟩
   have hj' := AF hj
   have hre := q5.len i row hi
   have hlt := AF hi
   have hle2 : i * e + e ≤ rows2.length * e := by rw [← zC1]; exact zA4 e hlt
   rw [k3 _ (by omega), zA3]
   exact q5.cell i row j t hi hj
 obtain ⟨news, Rf2, hn1, hn2, hn3, hn4⟩ := hsrc
 have hlen2 : news.toList.length = rows2.length * e := by simp [hn2]
 -- the new state, wherever the rows lie now
 have fin : ∀ (l : Option Nat) (v : Value) (m : Nat → Prop) (w' : World), (∀ β, l = some β → X.w0.heap.size ≤ β ∧ β < w'.heap.size ∧ ¬ G.S β ∧ (G.loc b = some β ∨ w.heap.size ≤ β)) → (∃ q n c, v = .slice q n c) → (∀ γ, m γ → G.has b γ ∨ G.has b2 γ) →
   (∀ γ, γ < w.heap.size → l ≠ some γ → w'.heap[γ]? = w.heap[γ]?) → w.heap.size ≤ w'.heap.size → Dw X.L X.w0.heap.size X.w0 w' →
   (∀ G' : Gh, G'.S = G.S → G'.loc s = l → G'.hd s = v → G'.more s = m → Em P w' G' s (.dvec e cols (rows ++ rows2))) →
   ∃ G', Dd P X G' ⟨st.env, Bo st.bx ((s, .dvec e cols (rows ++ rows2)) :: H1 [b, b2])⟩ a w' ∧ ∀ d', some (D.e (.one (.own s))) = some d' → HI P w' G' v d' ∧ ∀ c, c ∈ d'.names → (Bo st.bx ((s, .dvec e cols (rows ++ rows2)) :: H1 [b, b2]) c).isSome = true := by
  intro l v m w' g1 gv gm g5 g6 g7 gblk
  let G' : Gh := { S := G.S, loc := fun c => if c = s then l else G.loc c, hd := fun c => if c = s then v else G.hd c, more := fun c => if c = s then m else G.more c }
  have hsome : ∀ c, (st.bx c).isSome = true → c ≠ s := fun c hc e => by rw [e, hnew] at hc; cases hc
  have hasS : ∀ γ, G'.has s γ → l = some γ ∨ G.has b γ ∨ G.has b2 γ := fun γ h => by
   unfold Gh.has at h
   simp only [G', if_true] at h
   rcases h with h | h
   ·exact .inl h
   ·exact .inr (gm γ h)
  have hasO : ∀ c γ, c ≠ s → (G'.has c γ ↔ G.has c γ) := fun c γ h => by unfold Gh.has; simp only [G', if_neg h]
  have old2 : ∀ c kk γ, st.bx c = some kk → kk.real = true → G.has c γ → l = some γ → c = b := fun c kk γ h1 h2 h3 h4 => by
   rcases (g1 γ h4).2.2.2 with g4 | g4
   ·exact hs.at_inj c b kk _ γ h1 hb h2 rfl h3 (.inl g4)
   ·have := (hs.at_ok c kk γ h1 h2 h3).2.1; omega
  refine ⟨G', hs.frame2 (fun c hc => ?_) (fun _ h => h) (fun c hc => by simp only [G', if_neg (hsome c hc)]) (fun c hc => by simp only [G', if_neg (hsome c hc)]) (fun γ hγ => g5 γ (hs.S_lt γ hγ) fun e' => (g1 γ e').2.2.1 hγ) ?_ ?_ ?_ (fun γ hγ => by have := hs.S_lt γ hγ; omega) hs.S_src g7 (fun c hc => ?_), ?_⟩
  ·rw [hbx]; split
   ·rfl
   ·split
    ·rfl
    ·split
     ·rfl
     ·exact hc
  ·intro c kk hc
   rw [hbx] at hc
   split at hc
   ·rename_i e1; subst e1; cases hc
    exact .inr ⟨gblk G' rfl (by simp [G']) (by simp [G']) (by simp [G']), fun c' hc' => by cases hc'⟩
   ·rename_i e1
    split at hc
    ·cases hc; exact .inr ⟨trivial, fun c' hc' => by cases hc'⟩
    ·rename_i e2
     split at hc
     ·cases hc; exact .inr ⟨trivial, fun c' hc' => by cases hc'⟩
     ·exact .inl ⟨hc, by simp only [G', if_neg e1], fun γ hr hγ => g5 γ (hs.at_ok c kk γ hc hr hγ).2.1 fun e' => e2 (old2 c kk γ hc hr hγ e')⟩
  ·intro c kk γ hc hr hγ
   rw [hbx] at hc
   split at hc
   ·rename_i e1; subst e1
    rcases hasS γ hγ with h | h | h
    ·exact ⟨.new (g1 γ h).1, (g1 γ h).2.1, (g1 γ h).2.2.1⟩
    ·have := hs.at_ok b _ γ hb rfl h
     exact ⟨.new (this.1.1 hbl), by omega, this.2.2⟩
    ·have := hs.at_ok b2 _ γ hb2 rfl h
     exact ⟨.new (this.1.1 hbl2), by omega, this.2.2⟩
   ·rename_i e1
    split at hc
    ·cases hc; cases hr
    ·split at hc
     ·cases hc; cases hr
     ·have := hs.at_ok c kk γ hc hr ((hasO c γ e1).1 hγ)
      exact ⟨this.1, by omega, this.2.2⟩
  ·intro c c' kk kk' γ hc hc' hr hr' hγ hγ'
   rw [hbx] at hc hc'
   have cl : ∀ c kk, (if c = s then some (BL.dvec e cols (rows ++ rows2)) else if c = b then some .gone else if c = b2 then some .gone else st.bx c) = some kk → kk.real = true → G'.has c γ → (c = s ∧ (l = some γ ∨ G.has b γ ∨ G.has b2 γ)) ∨ (c ≠ s ∧ c ≠ b ∧ c ≠ b2 ∧ st.bx c = some kk ∧ G.has c γ) := by
    intro c kk hc hr hγ
    split at hc
    ·rename_i e1; subst e1; exact .inl ⟨rfl, hasS γ hγ⟩
    ·rename_i e1
     split at hc
     ·cases hc; cases hr
     ·rename_i e2
      split at hc
      ·cases hc; cases hr
      ·rename_i e3; exact .inr ⟨e1, e2, e3, hc, (hasO c γ e1).1 hγ⟩
   have mix : ∀ c kk, c ≠ b → c ≠ b2 → st.bx c = some kk → kk.real = true → G.has c γ → (l = some γ ∨ G.has b γ ∨ G.has b2 γ) → False := by
    intro c kk q1 q2 q3 q4 q5 q6
    rcases q6 with h | h | h
    ·exact q1 (old2 c kk γ q3 q4 q5 h)
    ·exact q1 (hs.at_inj c b kk _ γ q3 hb q4 rfl q5 h)
    ·exact q2 (hs.at_inj c b2 kk _ γ q3 hb2 q4 rfl q5 h)
   rcases cl c kk hc hr hγ with ⟨q1, q2⟩ | ⟨q1, q2, q3, q4, q5⟩ <;> rcases cl c' kk' hc' hr' hγ' with ⟨q1', q2'⟩ | ⟨q1', q2', q3', q4', q5'⟩
   ·rw [q1, q1']
   ·exact (mix c' kk' q2' q3' q4' hr' q5' q2).elim
   ·exact (mix c kk q2 q3 q4 hr q5 q2').elim
   ·exact hs.at_inj c c' kk kk' γ q4 q4' hr hr' q5 q5'
  ·have e1 : c ≠ s := fun e' => by rw [e', hnl] at hc; cases hc
   refine ⟨?_, ?_, ?_⟩ <;> simp only [G', if_neg e1]
  ·rintro d' ⟨⟩
   refine ⟨⟨by simp [G'], gv⟩, fun c hc => ?_⟩
   have : c = s := by simpa [D.names, E.names, C.names] using hc
   subst this
   rw [hbx, if_pos rfl]; rfl
 -- rows that lie in a block
 have blk : ∀ (β cap' : Nat) (arr' : Array Value) (el' : TypeId) (Rf : Nat → Nat → Nat → Prop) (w' : World), w'.heap[β]? = some (.cells arr' el' (0, 0)) → rows.length + rows2.length ≤ cap' → arr'.size = cap' * e →
   K1 w' G.S e cols (rows ++ rows2) (fun i j γ => if i < rows.length then Rf i j γ else Rf2 (i - rows.length) j γ) (Av arr') → (∀ i j, ¬ Rf i j β) → ¬ G.has b2 β →
   ∀ G' : Gh, G'.S = G.S → G'.loc s = some β → G'.hd s = .slice (some ⟨β, 0, none⟩) (rows.length + rows2.length) cap' → G'.more s = (fun γ => (∃ i j, Rf i j γ) ∨ ∃ i j, Rf2 i j γ) → Em P w' G' s (.dvec e cols (rows ++ rows2)) := by
  intro β cap' arr' el' Rf w' g8 g9 g10 g11 g12 g13 G' hS hl hh hm
  refine .inr ⟨β, cap', arr', el', _, hl, by rw [hh]; simp, g8, by simpa using g9, g10, g11.len, fun i row j t hi hj => by rw [hS]; exact g11.cell i row j t hi hj, ?_, ?_, g11.dis⟩
  ·intro i j γ hγ
   rw [hm]
   split at hγ
   ·exact .inl ⟨i, j, hγ⟩
   ·exact .inr ⟨_, j, hγ⟩
  ·intro i j hγ
   split at hγ
   ·exact g12 i j hγ
   ·exact g13 (hn4 _ j β hγ)
 have hcross : ∀ (Rf : Nat → Nat → Nat → Prop), (∀ i j γ, Rf i j γ → G.has b γ) → ∀ i j i' j' γ, Rf i j γ → Rf2 i' j' γ → False := fun Rf hRf i j i' j' γ h1 h2 => hne (hs.at_inj b b2 _ _ γ hb hb2 rfl rfl (hRf i j γ h1) (hn4 i' j' γ h2))
 have hS2 : ∀ γ, (∃ i j, Rf2 i j γ) → γ < w.heap.size := fun γ ⟨i, j, h⟩ => (hs.at_ok b2 _ γ hb2 rfl (hn4 i j γ h)).2.1
 have hnewhas : ∀ c kk, st.bx c = some kk → kk.real = true → ¬ G.has c w.heap.size := fun c kk h1 h2 h3 => zI6 _ (hs.at_ok c kk _ h1 h2 h3).2.1
 -- a new block
 have fresh : ∀ (olds rest : Array Value) (c : Nat) (Rf : Nat → Nat → Nat → Prop), rows.length + rows2.length ≤ c → olds.size = rows.length * e → rest.size = (c - (rows.length + rows2.length)) * e → K1 w G.S e cols rows Rf (Av olds) → (∀ i j γ, Rf i j γ → G.has b γ) →
   (Builtin.append_ #[t, t2] o.type #[a.eval x, a.eval y]).run P w = .ok (.slice (some ⟨w.heap.size, 0, none⟩) (rows.length + rows2.length) c) (w.drew.alloc (.cells (olds ++ news ++ rest) el)) →
   ∃ v w' G', (execOp a.eval o).run P w = .ok (.value v) w' ∧ Dd P X G' ⟨st.env, Bo st.bx ((s, .dvec e cols (rows ++ rows2)) :: H1 [b, b2])⟩ a w' ∧ ∀ d, some (D.e (.one (.own s))) = some d → HI P w' G' v d ∧ ∀ b_1, b_1 ∈ d.names → (Bo st.bx ((s, .dvec e cols (rows ++ rows2)) :: H1 [b, b2]) b_1).isSome = true := by
  intro olds rest c Rf hc1 ho hrest hD hRf hrun1
  have hsz : (w.drew.alloc (.cells (olds ++ news ++ rest) el)).heap.size = w.heap.size + 1 := by show (w.heap.push _).size = _; simp
  have hheap : ∀ γ, γ < w.heap.size → (w.drew.alloc (.cells (olds ++ news ++ rest) el)).heap[γ]? = w.heap[γ]? := fun γ hγ => by rw [Dk, if_neg (by rw [G7]; omega)]; rfl
  have hat : (w.drew.alloc (.cells (olds ++ news ++ rest) el)).heap[w.heap.size]? = some (.cells (olds ++ news ++ rest) el) := by rw [Dk, G7, if_pos rfl]
  have hap : K1 (w.drew.alloc (.cells (olds ++ news ++ rest) el)) G.S e cols (rows ++ rows2) (fun i j γ => if i < rows.length then Rf i j γ else Rf2 (i - rows.length) j γ) (Av (olds ++ news ++ rest)) := by
   refine hD.app hn3 (hcross Rf hRf) (fun j hj => ?_) (fun j hj => ?_) (fun γ hγ => hheap γ ?_)
   ·rw [Cv (by simp [ho]; omega), Cv (by omega)]
   ·rw [Cv (by simp [ho, hn2]; omega), Hi (by omega), ho, zH0]
   ·rcases hγ with h | ⟨i, j, h | h⟩
    ·exact hs.S_lt γ h
    ·exact (hs.at_ok b _ γ hb rfl (hRf i j γ h)).2.1
    ·exact (hs.at_ok b2 _ γ hb2 rfl (hn4 i j γ h)).2.1
  obtain ⟨G', k1, k2⟩ := fin (some w.heap.size) (.slice (some ⟨w.heap.size, 0, none⟩) (rows.length + rows2.length) c) (fun γ => (∃ i j, Rf i j γ) ∨ ∃ i j, Rf2 i j γ) _
   (fun β hβ => by cases hβ; exact ⟨hs.below.size, by omega, fun h => zI6 _ (hs.S_lt _ h), .inr (zB1 _)⟩) ⟨_, _, _, rfl⟩ (fun γ hγ => hγ.imp (fun ⟨i, j, h⟩ => hRf i j γ h) (fun ⟨i, j, h⟩ => hn4 i j γ h)) (fun γ h1 _ => hheap γ h1) (by omega)
   ((hs.below.drew).alloc (by rw [G7]; exact hs.below.size) _)
   (blk w.heap.size c _ el Rf _ hat hc1 (by simp only [Array.size_append, ho, hn2, hrest]; rw [← zE4, ← zE4]; congr 1; omega) hap (fun i j h => hnewhas b _ hb rfl (hRf i j _ h)) (fun h => hnewhas b2 _ hb2 rfl h))
  exact ⟨_, _, G', hrun _ _ hrun1, k1, k2⟩
 rcases hx3 with ⟨h1, h2⟩ | ⟨β, arr, el', Rf, q1, q2, q3, q4, q5, q6, q7⟩
 · -- nothing was there
  obtain ⟨olds, k1, k2, k3⟩ := E7 (P := P) (w := w) (a := p) (len := 0) (cap := 0) (e := e) (S := G.S)
  have hr0 : rows.length = 0 := by rw [h1]; rfl
  have hold : ∀ w' : World, w'.heap = w.heap → (Builtin.firstCells e rows.length (.slice p rows.length cap)).run P w' = .ok olds w' := by rw [hr0, h2]; exact k1
  rcases Gs (ty := o.type) (a := p) (n := rows.length) (cap := cap) ht ht2 he hby hbs hz hzs hy1 hold hn1 hlim hx2 with ⟨hfit, hrun1⟩ | ⟨hfit, c, rest, hc1, hrun1, hrest⟩
  ·have hr2 : rows2 = [] := zD2 (by omega)
   have hn0 : news.toList = [] := zD2 (by rw [hlen2, hr2]; simp)
   have hrun2 := hrun1 w (fun q _ => by rw [hn0]; rfl) (fun _ => rfl)
   rw [← hx1] at hrun2
   obtain ⟨G', g1, g2⟩ := fin none (.slice p (rows.length + rows2.length) cap) (fun _ => False) w (fun β h => by cases h) ⟨_, _, _, rfl⟩ (fun _ h => h.elim) (fun _ _ _ => rfl) (zB1 _) hs.below
    (fun G' hS hl hh hm => .inl ⟨p, by rw [hh, hr0, hr2, h2]; rfl, by rw [h1, hr2]; rfl, hl⟩)
   exact ⟨_, w, G', hrun _ _ hrun2, g1, g2⟩
  ·rw [← hx1] at hrun1
   exact fresh olds rest c (fun _ _ _ => False) hc1 (by rw [hr0]; simpa using k3) hrest ⟨fun i row h => by rw [h1] at h; simp at h, fun i row j t h => by rw [h1] at h; simp at h, fun _ _ _ _ _ h => h.elim⟩ (fun _ _ _ h => h.elim) hrun1
 ·subst q1
  have hle : 0 + rows.length * e ≤ arr.size := by rw [q4, zA3]; exact zA4 e hx2
  obtain ⟨olds, k1, k2, k3⟩ := Th (P := P) (len := rows.length) (cap := cap) q3 hle
  have hatb := hs.at_ok b _ β hb rfl (.inl q2)
  rcases Gs (ty := o.type) (a := some ⟨β, 0, none⟩) (n := rows.length) (cap := cap) ht ht2 he hby hbs hz hzs hy1 k1 hn1 hlim hx2 with ⟨hfit, hrun1⟩ | ⟨hfit, c, rest, hc1, hrun1, hrest⟩
  ·have hbnd : rows.length * e + rows2.length * e ≤ arr.size := by rw [q4, ← zE4]; exact zA4 e hfit
   have hst := Fm (P := P) (β := β) (el := el') news.toList w (rows.length * e) 0 arr q3 (by rw [hlen2]; omega) (hn3.ones hn2)
   rw [zF7] at hst
   have hrun2 := hrun1 _ (fun p hp => by cases hp; rw [Addr.add_mk, zA3]; exact hst) (fun h => by cases h)
   rw [← hx1] at hrun2
   have hheap : ∀ γ, γ ≠ β → (Gm w β (.cells (FB arr (rows.length * e) news.toList) el' (0, 0))).heap[γ]? = w.heap[γ]? := fun γ hγ => by rw [DX, if_neg (fun h => hγ h.1)]
   have hszw : (Gm w β (.cells (FB arr (rows.length * e) news.toList) el' (0, 0))).heap.size = w.heap.size := by simp [Gm]
   have hov : ∀ j, Av (FB arr (rows.length * e) news.toList) j = if rows.length * e ≤ j ∧ j < rows.length * e + rows2.length * e then Av news (j - rows.length * e) else Av arr j := fun j => by
    rw [Fj _ _ _ _ (by rw [hlen2]; exact hbnd), hlen2, FY]
   have hb2β : ¬ G.has b2 β := fun h => hne (hs.at_inj b b2 _ _ β hb hb2 rfl rfl (.inl q2) h)
   have hap : K1 (Gm w β (.cells (FB arr (rows.length * e) news.toList) el' (0, 0))) G.S e cols (rows ++ rows2) (fun i j γ => if i < rows.length then Rf i j γ else Rf2 (i - rows.length) j γ) (Av (FB arr (rows.length * e) news.toList)) := by
    refine q5.app hn3 (hcross Rf (fun i j γ h => .inr (q6 i j γ h))) (fun j hj => by rw [hov, if_neg (by omega)]) (fun j hj => by rw [hov, if_pos (by omega), zH0]) (fun γ hγ => hheap γ ?_)
    rcases hγ with h | ⟨i, j, h | h⟩
    ·exact fun e' => hatb.2.2 (e' ▸ h)
    ·exact fun e' => q7 i j (e' ▸ h)
    ·exact fun e' => hb2β (e' ▸ hn4 i j γ h)
   obtain ⟨G', g1, g2⟩ := fin (some β) (.slice (some ⟨β, 0, none⟩) (rows.length + rows2.length) cap) (fun γ => (∃ i j, Rf i j γ) ∨ ∃ i j, Rf2 i j γ) _
    (fun γ hγ => by cases hγ; exact ⟨hatb.1.1 hbl, by omega, hatb.2.2, .inl q2⟩) ⟨_, _, _, rfl⟩ (fun γ hγ => hγ.imp (fun ⟨i, j, h⟩ => .inr (q6 i j γ h)) (fun ⟨i, j, h⟩ => hn4 i j γ h)) (fun γ _ h2 => hheap γ fun e' => h2 (by rw [e'])) (by omega)
    (KB hs.below hatb.1.2 _)
    (blk β cap _ el' Rf _ (by rw [DX, if_pos ⟨rfl, hatb.2.1⟩]) hfit (by rw [GG, q4]) hap q7 hb2β)
   exact ⟨_, _, G', hrun _ _ hrun2, g1, g2⟩
  ·rw [← hx1] at hrun1
   refine fresh olds rest c Rf hc1 k2 hrest ⟨q5.len, fun i row j t hi hj => ?_, q5.dis⟩ (fun i j γ h => .inr (q6 i j γ h)) hrun1
   have hj' := AF hj
   have hre := q5.len i row hi
   have hlt := AF hi
   have hle2 : i * e + e ≤ rows.length * e := by rw [← zC1]; exact zA4 e hlt
   rw [k3 _ (by omega), zA3]
   exact q5.cell i row j t hi hj
end run
theorem VG {st : St} (b e : Nat) (cols : List Ow) (rows : List (List T)) (hb : st.bx b = some (.dvec e cols rows)) (hlt : Bv b = false) : GA P X st (st.frg b (zV (.sl rows))) :=
 Qh b _ rows hb rfl hlt fun w G hB => by
  have hX : Q2 w G.S (.x e cols) (G.has b) (G.hd b) (.sl rows) := by
   rcases hB with ⟨a, h1, h2, _⟩ | ⟨β, cap, arr, el, Rf, h0, h1, h2, h3, h4, h5, h6, h7, h8, h9⟩
   ·rw [h1, h2]; exact .nil a e cols
   ·rw [h1]
    exact .sl β cap e cols arr el rows Rf h2 h3 h4 h5 h6 (.inl h0) (fun i j γ hγ => .inr (h7 i j γ hγ)) h8 h9
  exact hX.toT (fun β h => .inl h) fun β h => .inr h
end Go.Lift
namespace Go.Lift
open Go.RowKit
variable {P : Program} {X : IX} {ops : Array Oper}
theorem Ju {α : Type} (f : α → List T) (b e : Nat) (xs : List α) : Ok (.e (.one (.own b))) b e (xs.map f) 0 xs.length := by
 have := Ok.own b e (xs.map f)
 rwa [zB0] at this
theorem NM {α : Type} (f : α → List T) (b e lo len : Nat) (xs : List α) (h : lo + len ≤ xs.length) : Ok (.e (.one (.view b e lo len))) b e (xs.map f) lo len := .view b e _ lo len (by simpa using h)
theorem Vz {α : Type} (f : α → List T) (b e lo len : Nat) (xs : List α) (h : lo + len ≤ xs.length) : P2 (.e (.one (.view b e lo len))) [(b, .vec e (xs.map f))] e (((xs.drop lo).take len).map f) := by
 have := P2.view b e (xs.map f) lo len (by simpa using h)
 rwa [← List.map_drop, ← zL2] at this
theorem WA {α : Type} (f : α → List T) (b e : Nat) (xs : List α) : P2 (.e (.one (.own b))) [(b, .vec e (xs.map f))] e (xs.map f) := .of (.own _ _ _)
theorem Yz {α : Type} (f : α → List T) (e : Nat) (xs : List α) (h : ∀ x, (f x).length = e) : P2 (one (.sl (xs.map f))) [] e (xs.map f) := .of (.sl _ _ (SD h xs))
section run
variable {dr : Bool} {Q : St → Prop} {r i : Nat} {st : St} {log : List (Nat × CO)} {o : Oper} {gs : List (Operand × D)}
theorem Ko {α : Type} (f : α → List T) (xs : List α) {x : Operand} {t el s e l h b lo0 len lo1 len1 : Nat} {lo hi : Option Operand} {rl rh : List (Operand × D)} {d : D} (hat : At st.env ops i X.n (.slice t x lo hi none) s gs)
  (hx : opd st.env x = some d) (hD : Ok d b e (xs.map f) lo0 len) (hb : st.bx b = some (.vec e (xs.map f))) (ht : sliceB P t el = true) (he : HQ P el e = true) (hlo : XK lo 0 l rl) (hhi : XK hi len h rh) (h1 : Ge st.env rl) (h2 : Ge st.env rh) (hlh : l ≤ h) (hhl : lo0 + h ≤ xs.length) (e1 : lo0 + l = lo1) (e2 : h - l = len1)
  (next : Bc P X ops dr Q r (i + 1) (CO.upd ⟨gs ++ ((x, d) :: (rl ++ rh)), [(b, .vec e (xs.map f))], some s, some (.e (.one (.view b e lo1 len1))), [], []⟩ st) ((i, ⟨gs ++ ((x, d) :: (rl ++ rh)), [(b, .vec e (xs.map f))], some s, some (.e (.one (.view b e lo1 len1))), [], []⟩) :: log)) : Bc P X ops dr Q (r + 1) i st log := by
 subst e1; subst e2
 exact Xq hat hx hD hb ht he hlo hhi h1 h2 hlh (by simpa using hhl) next
theorem Un {α : Type} (f : α → List T) (xs ys : List α) {x y : Operand} {t t2 el s e b lo len : Nat} {d d2 : D} {rb2 : List (Nat × BL)} (hat : At st.env ops i X.n (.call ⟨.builtin .copy, #[x, y], #[t, t2]⟩) s gs)
  (hx : opd st.env x = some d) (hD : Ok d b e (xs.map f) lo len) (hb : st.bx b = some (.vec e (xs.map f))) (hy : opd st.env y = some d2) (hS : P2 d2 rb2 e (ys.map f)) (hb2 : Ik st.bx rb2) (ht : sliceB P t el = true) (he : HQ P el e = true)
  (next : Bc P X ops dr Q r (i + 1) (CO.upd ⟨gs ++ [(x, d), (y, d2)], (b, .vec e (xs.map f)) :: rb2, some s, some (vD (.int .i64 ((zF1 ys.length len : Nat) : Int))), [(b, .vec e ((Ji xs lo (ys.take (zF1 ys.length len))).map f))], []⟩ st) ((i, ⟨gs ++ [(x, d), (y, d2)], (b, .vec e (xs.map f)) :: rb2, some s, some (vD (.int .i64 ((zF1 ys.length len : Nat) : Int))), [(b, .vec e ((Ji xs lo (ys.take (zF1 ys.length len))).map f))], []⟩) :: log)) : Bc P X ops dr Q (r + 1) i st log := by
 have hl : (ys.map f).length = ys.length := zB0 _
 refine au hat hx hD hb hy hS hb2 ht he (rows' := (Ji xs lo (ys.take (zF1 ys.length len))).map f) ?_ ?_
 ·rw [hl, ← zL2, UR]
 ·rw [hl]; exact next
theorem Ts {α : Type} (f : α → List T) (xs : List α) (z0 : α) {x : Operand} {t el b e lo len : Nat} {z : Value} {zs : List Value} {d : D} (hop0 : RM ops i = some (.call ⟨.builtin .clear, #[x], #[t]⟩))
  (hx : opd st.env x = some d) (hD : Ok d b e (xs.map f) lo len) (hb : st.bx b = some (.vec e (xs.map f))) (ht : sliceB P t el = true) (hz : DS P el = some z) (hzs : z.cells.toList = zs) (hz1 : zs.all He = true) (hze : zs.length = e) (hf : (zs.map fun v => (T.of v).nrm) = f z0)
  (next : Bc P X ops dr Q r (i + 1) (CO.upd ⟨[(x, d)], [(b, .vec e (xs.map f))], none, none, [(b, .vec e ((Ji xs lo (zA6 len z0)).map f))], []⟩ st) ((i, ⟨[(x, d)], [(b, .vec e (xs.map f))], none, none, [(b, .vec e ((Ji xs lo (zA6 len z0)).map f))], []⟩) :: log)) : Bc P X ops dr Q (r + 1) i st log := by
 refine WQ hop0 hx hD hb ht hz hzs hz1 hze (rows' := (Ji xs lo (zA6 len z0)).map f) ?_ next
 rw [hf, ← UR]; simp
end run
theorem US {α : Type} {st : St} (f : α → List T) (xs : List α) (s b e : Nat) (hs0 : st.env s = some (.e (.one (.own b)))) (hb : st.bx b = some (.vec e (xs.map f))) : GA P X st (St.put st (some s) (some (.e (.one (.view b e 0 xs.length))))) := by
 have := VD (P := P) (X := X) s b e (xs.map f) hs0 hb
 rwa [zB0] at this
theorem V5 {α : Type} {st : St} (f : α → List T) (xs : List α) (s b n e len : Nat) (hs0 : st.env s = some (.e (.one (.view b e 0 len)))) (hb : st.bx b = some (.vec e (xs.map f))) (hn : st.bx n = none) (hlb : Bv b = false) (hln : Bv n = false) (hle : len ≤ xs.length) :
  GA P X st (St.put ⟨st.env, Bo st.bx [(n, .vec e ((xs.take len).map f)), (b, .gone)]⟩ (some s) (some (.e (.one (.own n))))) := by
 have := WN (P := P) (X := X) s b n e len (xs.map f) hs0 hb hn hlb hln (by simpa using hle)
 rwa [← zL2] at this
theorem Kb (a b : ByteArray) : (a == b) = (a.data == b.data) := by
 cases a; cases b; rfl
theorem MF (a b : ByteArray) (h : (a == b) = true) : (b == a) = true := by
 rw [Kb] at h ⊢
 rw [beq_iff_eq] at h ⊢; exact h.symm
theorem bH {c : Code} {Q : Exit → St → Prop} {st : St} (h : W P X c (fun e st => ∃ st', GA P X st st' ∧ Q e st') st) : W P X c Q st := by
 intro a w hs
 refine wp_mono (h a w hs) ?_
 rintro e a' w' ⟨st', ⟨st2, h1, h2⟩, h3⟩
 exact ⟨st2, h2, h1 a' w' h3⟩
def UK (f : Nat → Nat) (env : Nat → Option D) : List (Nat × D) → Prop
 | [] => True
 | (s, d) :: ps => env s = some (d.ren f) ∧ UK f env ps
def UV (f : Nat → Nat) (bx : Nat → Option BL) : List (Nat × BL) → Prop
 | [] => True
 | (b, k) :: ps => bx (f b) = some (k.ren f) ∧ UV f bx ps
def FX : List (Nat × BL) → List Nat
 | [] => []
 | (b, _) :: ps => b :: FX ps
def N0 (f : Nat → Nat) : List Nat → Bool
 | [] => true
 | b :: bs => (if Bv b then f b == b else !Bv (f b)) && N0 f bs
def ci (b : Nat) : List Nat → Bool
 | [] => false
 | c :: cs => c == b || ci b cs
def QA (ns : List Nat) : List (Nat × D) → Bool
 | [] => true
 | (_, d) :: ps => (d.names.all fun b => ci b ns) && QA ns ps
def Qx (ns : List Nat) : List (Nat × BL) → Bool
 | [] => true
 | (_, d) :: ps => (d.names.all fun b => ci b ns) && Qx ns ps
theorem ST {f : Nat → Nat} {env : Nat → Option D} : ∀ {el : List (Nat × D)}, UK f env el → YX f env el
 | [], _ => trivial
 | (_, _) :: _, h => ⟨h.1, ST h.2⟩
theorem SH {f : Nat → Nat} {bx : Nat → Option BL} : ∀ {bl : List (Nat × BL)}, UV f bx bl → Yl f bx bl
 | [], _ => trivial
 | (_, _) :: _, h => ⟨h.1, SH h.2⟩
theorem Qt : ∀ bl : List (Nat × BL), FX bl = bl.map (·.1)
 | [] => rfl
 | (b, k) :: ps => by simp [FX, Qt ps]
theorem QG {f : Nat → Nat} : ∀ bl : List (Nat × BL), N0 f (FX bl) = bl.all fun p => if Bv p.1 then f p.1 == p.1 else !Bv (f p.1)
 | [] => rfl
 | (b, k) :: ps => by simp only [FX, N0, zG7, QG ps]
theorem Tz {b : Nat} : ∀ bl : List (Nat × BL), ci b (FX bl) = bl.any fun q => q.1 == b
 | [] => rfl
 | (c, k) :: ps => by simp only [FX, ci, List.any_cons, Tz ps]
theorem S9 (bl : List (Nat × BL)) : ∀ el : List (Nat × D), QA (FX bl) el = el.all fun p => p.2.names.all fun b => bl.any fun q => q.1 == b
 | [] => rfl
 | (s, d) :: ps => by simp only [QA, zG7, S9 bl ps, Tz]
theorem Tt (bl : List (Nat × BL)) : ∀ el : List (Nat × BL), Qx (FX bl) el = el.all fun p => p.2.names.all fun b => bl.any fun q => q.1 == b
 | [] => rfl
 | (s, d) :: ps => by simp only [Qx, zG7, Tt bl ps, Tz]
theorem WU {st : St} (f : Nat → Nat) (el : List (Nat × D)) (bl : List (Nat × BL)) (he : UK f st.env el) (hb : UV f st.bx bl) (hi : (Jw ((FX bl).map f) && N0 f (FX bl)) = true) (hs : (QA (FX bl) el && Qx (FX bl) bl) = true) : GA P X st (mk el bl) := by
 refine YS f el bl (ST he) (SH hb) ?_ ?_
 ·rw [QG, Qt] at hi; exact hi
 ·rw [S9, Tt] at hs; exact hs
theorem LS {α : Type} (f : α → List T) (xs : List α) (e : Nat) (cols : List Ow) : vl (.dvec e cols (xs.map f)) = some (e, xs.length) := by simp [vl]
theorem ag {α : Type} (f : α → List T) (xs : List α) (e i k c : Nat) (cols : List Ow) : vl (.hol e cols i k c (xs.map f)) = some (e, xs.length) := by simp [vl]
theorem Kk {dr : Bool} {Q : St → Prop} {r i : Nat} {st : St} {log : List (Nat × CO)} {gs : List (Operand × D)} {x y : Operand} {t s : Nat} {b : ByteArray} {k : IntKind} {n v : Int} (hat : At st.env ops i X.n (.index t x y) s gs)
  (hx : opd st.env x = some (vD (.string b))) (hy : opd st.env y = some (vD (.int k n))) (ht : QE P t = true) (hv : SU b n = some v)
  (next : Bc P X ops dr Q r (i + 1) (CO.upd ⟨gs ++ [(x, vD (.string b)), (y, vD (.int k n))], [], some s, some (vD (.int .u8 v)), [], []⟩ st) ((i, ⟨gs ++ [(x, vD (.string b)), (y, vD (.int k n))], [], some s, some (vD (.int .u8 v)), [], []⟩) :: log)) : Bc P X ops dr Q (r + 1) i st log := by
 obtain ⟨c, h0, hc, e⟩ := Vl (f := some) (r := v) (by rw [hv]; rfl)
 cases e
 exact V4 hat hx hy ht h0 hc next
theorem N1 {t kt el : TypeId} (h1 : P.underlying t = some (.map kt el)) (h2 : P.underlying kt = some .string) : O5 P t Value.string where
 ty := ⟨kt, el, .string, h1, h2, fun _ _ => rfl, fun e n v w => by
  unfold Instr.checkKey
  refine Ai (AN h2 w) ?_
  rfl⟩
 same := fun a b h => by
  show (b == a) = true
  exact MF a b h
theorem LX {t kt el : TypeId} {k : IntKind} (h1 : P.underlying t = some (.map kt el)) (h2 : P.underlying kt = some (.int k)) : O5 P t (Value.int k) where
 ty := ⟨kt, el, .int k, h1, h2, fun a b => by simp [Instr.sameNow], fun e n v w => by
  unfold Instr.checkKey
  refine Ai (AN h2 w) ?_
  rfl⟩
 same := fun a b h => by
  show (k == k && b == a) = true
  rw [beq_iff_eq] at h; subst h; simp
end Go.Lift
namespace Go.Lift
open Go.RowKit
variable {P : Program} {X : IX} {ops : Array Oper}
def hd (env : Nat → Option D) (ops : Array Oper) (i n : Nat) : Option (Op × Nat × List (Operand × D)) := match dF ops i n with
 | some (op, s) => some (op, s, [])
 | none => match dX ops i n with
  | some (op, s, t, want) => (match env t, want with
   | some (.e (.one (.pure (.val (.bool true))))), true => some (op, s, [(.tmp t, bD true)])
   | some (.e (.one (.pure (.val (.bool false))))), false => some (op, s, [(.tmp t, bD false)])
   | _, _ => none)
  | none => none
theorem DN {env : Nat → Option D} {n i s : Nat} {op : Op} {gs : List (Operand × D)} (h : hd env ops i n = some (op, s, gs)) : At env ops i n op s gs := by
 unfold hd at h
 split at h
 ·rename_i e; cases h; exact .p e
 ·split at h
  ·rename_i e
   split at h
   ·rename_i e2; cases h; exact .g e e2
   ·rename_i e2; cases h; exact .g e e2
   ·cases h
  ·cases h
theorem t2 {α β : Type} {a c : α} {b d : β} (h : (a, b) = (c, d)) : a = c ∧ b = d := Prod.mk.inj h
abbrev Nx (P : Program) (X : IX) (ops : Array Oper) (dr : Bool) (Q : St → Prop) (r i : Nat) (st : St) (log : List (Nat × CO)) (l : CO) : Prop := Bc P X ops dr Q r (i + 1) (CO.upd l st) ((i, l) :: log)
theorem sj {α : Type} {a b : α} (h : some a = some b) : a = b := Option.some.inj h
def W9 (env : Nat → Option D) : List Operand → Option (List D)
 | [] => some []
 | x :: xs => match opd env x, W9 env xs with
  | some d, some ds => some (d :: ds)
  | _, _ => none
theorem Ra {env : Nat → Option D} : ∀ {xs : List Operand} {ds : List D}, W9 env xs = some ds → xs.length = ds.length ∧ Ge env (HW xs ds)
 | [], ds, h => by cases h; exact ⟨rfl, trivial⟩
 | x :: xs, ds, h => by
  simp only [W9] at h
  split at h
  ·rename_i e1 e2
   cases h
   have := Ra e2
   exact ⟨by simp [this.1], e1, this.2⟩
  ·cases h
def df (bx : Nat → Option BL) : List Nat → Option (List (Nat × BL))
 | [] => some []
 | b :: bs => match bx b, df bx bs with
  | some k, some ks => some ((b, k) :: ks)
  | _, _ => none
theorem Ws {bx : Nat → Option BL} : ∀ {l : List Nat} {bs : List (Nat × BL)}, df bx l = some bs → Ik bx bs
 | [], bs, h => by cases h; trivial
 | b :: l, bs, h => by
  simp only [df] at h
  split at h
  ·rename_i e1 e2
   cases h
   exact ⟨e1, Ws e2⟩
  ·cases h
def aJ (env : Nat → Option D) : List (Nat × Operand) → Option (List (Nat × Operand × E))
 | [] => some []
 | p :: ps => match opd env p.2, aJ env ps with
  | some (.e y), some qs => some ((p.1, p.2, y) :: qs)
  | _, _ => none
theorem UC {env : Nat → Option D} : ∀ {l : List (Nat × Operand)} {ps : List (Nat × Operand × E)}, aJ env l = some ps → l = (ps.map fun p => (p.1, p.2.1)) ∧ Ge env (H3 ps)
 | [], ps, h => by cases h; exact ⟨rfl, trivial⟩
 | p :: l, ps, h => by
  simp only [aJ] at h
  split at h
  ·rename_i e1 e2
   cases h
   have := UC e2
   exact ⟨by rw [zC7, ← this.1], e1, this.2⟩
  ·cases h
theorem WW {env : Nat → Option D} {parts : Array (Nat × Operand)} {ps : List (Nat × Operand × E)} (h : aJ env parts.toList = some ps) : parts = (ps.map fun p => (p.1, p.2.1)).toArray ∧ Ge env (H3 ps) := by
 have := UC h
 exact ⟨by rw [← this.1], this.2⟩
def Yn (k : Nat) : List (Nat × Operand × E) → Bool
 | [] => true
 | p :: ps => Nat.beq p.1 k && Yn (k + 1) ps
theorem Uq : ∀ {k : Nat} {ps : List (Nat × Operand × E)}, Yn k ps = true → ps.map (·.1) = zF9 k ps.length
 | _, [], _ => rfl
 | k, p :: ps, h => by
  simp only [Yn, zA5] at h
  rw [zC7, zC5, List.range'_succ, Uq h.2, Nat.eq_of_beq_eq_true h.1]
def d6 : Option BL → Bool
 | none => true
 | some _ => false
theorem RC {bx : Nat → Option BL} : ∀ {ns : List Nat}, (ns.all fun n => d6 (bx n)) = true → M0 bx ns
 | [], _ => trivial
 | n :: ns, h => by
  simp only [zG7, zA5] at h
  refine ⟨?_, RC h.2⟩
  have := h.1
  cases hb : bx n with
  | none => rfl
  | some k => rw [hb] at this; cases this
theorem QH {ns : List Nat} (h : (Jw ns && (ns.all fun n => !Bv n)) = true) : KD ns := by
 rw [zA5] at h
 exact ⟨J2 h.1, fun c hc => by simpa using zA2.1 h.2 c hc⟩
def cK (env : Nat → Option D) : List (Nat × D) → List (Option D)
 | [] => []
 | (s, _) :: ps => env s :: cK env ps
def cB (f : Nat → Nat) : List (Nat × D) → List (Option D)
 | [] => []
 | (_, d) :: ps => some (d.ren f) :: cB f ps
def bX (f : Nat → Nat) (bx : Nat → Option BL) : List (Nat × BL) → List (Option BL)
 | [] => []
 | (b, _) :: ps => bx (f b) :: bX f bx ps
def cM (f : Nat → Nat) : List (Nat × BL) → List (Option BL)
 | [] => []
 | (_, k) :: ps => some (k.ren f) :: cM f ps
theorem Wm {f : Nat → Nat} {env : Nat → Option D} : ∀ {el : List (Nat × D)}, cK env el = cB f el → UK f env el
 | [], _ => trivial
 | (s, d) :: el, h => by
  simp only [cK, cB] at h
  obtain ⟨h1, h2⟩ := List.cons.inj h
  exact ⟨h1, Wm h2⟩
theorem VP {f : Nat → Nat} {bx : Nat → Option BL} : ∀ {el : List (Nat × BL)}, bX f bx el = cM f el → UV f bx el
 | [], _ => trivial
 | (s, d) :: el, h => by
  simp only [bX, cM] at h
  obtain ⟨h1, h2⟩ := List.cons.inj h
  exact ⟨h1, VP h2⟩
theorem sm {st : St} (l : List (Nat × Nat)) (el : List (Nat × D)) (bl : List (Nat × BL)) (h : (cK st.env el, bX (rn l) st.bx bl) = (cB (rn l) el, cM (rn l) bl)) (hi : ((Jw ((FX bl).map (rn l)) && N0 (rn l) (FX bl)) && (QA (FX bl) el && Qx (FX bl) bl)) = true) : GA P X st (mk el bl) :=
 WU (rn l) el bl (Wm (t2 h).1) (VP (t2 h).2) (zH9.1 hi).1 (zH9.1 hi).2
section run
variable {dr : Bool} {Q : St → Prop} {r i : Nat} {st : St} {log : List (Nat × CO)} {gs : List (Operand × D)}
theorem qm {x : Operand} {d : D} {s : Nat} (h : (hd st.env ops i X.n, opd st.env x) = (some (.move x, s, gs), some d)) (next : Nx P X ops dr Q r i st log ⟨gs ++ [(x, d)], [], some s, some d, [], []⟩) : Bc P X ops dr Q (r + 1) i st log :=
 aa (DN (t2 h).1) (t2 h).2 next
theorem qa {x : Operand} {d : D} {s : Nat} (h : (hd st.env ops i X.n, opd st.env x) = (some (.assign x, s, gs), some d)) (next : Nx P X ops dr Q r i st log ⟨gs ++ [(x, d)], [], some s, some d, [], []⟩) : Bc P X ops dr Q (r + 1) i st log :=
 W4 (DN (t2 h).1) (t2 h).2 next
theorem qn {j t s : Nat} {want : Bool} (h : (aq ops i X.n, st.env t) = (some (j, s, t, want), some (bD (!want)))) (next : Nx P X ops dr Q r i st log ⟨[(.tmp t, bD (!want))], [], some s, some uD, [], []⟩) : Bc P X ops dr Q (r + 1) i st log :=
 ZL (t2 h).1 (t2 h).2 next
theorem qu {j t s : Nat} {want : Bool} (h : (aq ops i X.n, st.env t) = (some (j, s, t, want), some uD)) (next : Nx P X ops dr Q r i st log ⟨[(.tmp t, uD)], [], some s, some uD, [], []⟩) : Bc P X ops dr Q (r + 1) i st log :=
 ZV (t2 h).1 (t2 h).2 next
theorem qp {c x y : Operand} {b : Bool} {d : D} {z : Operand} {s : Nat} (h : (hd st.env ops i X.n, opd st.env c, (if b then x else y), opd st.env z) = (some (.pick c x y, s, gs), some (bD b), z, some d)) (next : Nx P X ops dr Q r i st log ⟨gs ++ [(c, bD b), (z, d)], [], some s, some d, [], []⟩) : Bc P X ops dr Q (r + 1) i st log :=
 Z2 (DN (t2 h).1) (t2 (t2 h).2).1 (t2 (t2 (t2 h).2).2).1 (t2 (t2 (t2 h).2).2).2 next
theorem qf {x : Operand} {b k f off s : Nat} {t : TypeId} (hf : CU P t f off = true) (h : (hd st.env ops i X.n, opd st.env x) = (some (.fieldAddr t x f, s, gs), some (.e (.one (.ptr b k))))) (next : Nx P X ops dr Q r i st log ⟨gs ++ [(x, .e (.one (.ptr b k)))], [], some s, some (.e (.one (.ptr b (k + off)))), [], []⟩) : Bc P X ops dr Q (r + 1) i st log :=
 SI (DN (t2 h).1) (t2 h).2 hf next
theorem qg {x : Operand} {ts us : List T} {f off s : Nat} {t : TypeId} (hf : CU P t f off = true) (h : (hd st.env ops i X.n, opd st.env x, zH7 (off) (ts.length), ts.drop off) = (some (.fieldAddr t x f, s, gs), some (.e (.one (.rop ts))), true, us)) (next : Nx P X ops dr Q r i st log ⟨gs ++ [(x, .e (.one (.rop ts)))], [], some s, some (.e (.one (.rop us))), [], []⟩) : Bc P X ops dr Q (r + 1) i st log :=
 Rl (DN (t2 h).1) (t2 (t2 h).2).1 hf (zD0 (t2 (t2 (t2 h).2).2).1) (t2 (t2 (t2 h).2).2).2 next
theorem qh {x : Operand} {b e ix k f off s : Nat} {t : TypeId} (hf : CU P t f off = true) (h : (hd st.env ops i X.n, opd st.env x) = (some (.fieldAddr t x f, s, gs), some (.e (.one (.eptr b e ix k))))) (next : Nx P X ops dr Q r i st log ⟨gs ++ [(x, .e (.one (.eptr b e ix k)))], [], some s, some (.e (.one (.eptr b e ix (k + off)))), [], []⟩) : Bc P X ops dr Q (r + 1) i st log :=
 RU (DN (t2 h).1) (t2 h).2 hf next
theorem ql {x : Operand} {b k s : Nat} {cells : List C} {c : C} {t : TypeId} (ht : FH P t false = true) (h : (hd st.env ops i X.n, opd st.env x, st.bx b, cells[k]?) = (some (.load t x, s, gs), some (.e (.one (.ptr b k))), some (.box cells), some c)) (next : Nx P X ops dr Q r i st log ⟨gs ++ [(x, .e (.one (.ptr b k)))], [(b, .box cells)], some s, some (.e (.one c)), [], []⟩) : Bc P X ops dr Q (r + 1) i st log :=
 XY (DN (t2 h).1) (t2 (t2 h).2).1 ht (t2 (t2 (t2 h).2).2).1 (t2 (t2 (t2 h).2).2).2 next
theorem qL {x : Operand} {b k n s : Nat} {cells cs : List C} {t : TypeId} (ht : FH P t true = true) (hz : HQ P t n = true) (h : (hd st.env ops i X.n, opd st.env x, st.bx b, (cells.drop k).take n, cs.length) = (some (.load t x, s, gs), some (.e (.one (.ptr b k))), some (.box cells), cs, n)) (next : Nx P X ops dr Q r i st log ⟨gs ++ [(x, .e (.one (.ptr b k)))], [(b, .box cells)], some s, some (.e (.agg cs)), [], []⟩) : Bc P X ops dr Q (r + 1) i st log :=
 XV (DN (t2 h).1) (t2 (t2 h).2).1 ht hz (t2 (t2 (t2 h).2).2).1 (t2 (t2 (t2 (t2 h).2).2).2).1 (t2 (t2 (t2 (t2 h).2).2).2).2 next
theorem qk {x : Operand} {s : Nat} {ts : List T} {u : T} {t : TypeId} (ht : FH P t false = true) (h : (hd st.env ops i X.n, opd st.env x, ts[0]?) = (some (.load t x, s, gs), some (.e (.one (.rop ts))), some u)) (next : Nx P X ops dr Q r i st log ⟨gs ++ [(x, .e (.one (.rop ts)))], [], some s, some (one u), [], []⟩) : Bc P X ops dr Q (r + 1) i st log :=
 W0 (DN (t2 h).1) (t2 (t2 h).2).1 ht (t2 (t2 h).2).2 next
theorem qK {x : Operand} {s n : Nat} {ts us : List T} {t : TypeId} (ht : FH P t true = true) (hz : HQ P t n = true) (h : (hd st.env ops i X.n, opd st.env x, ts.take n, us.length) = (some (.load t x, s, gs), some (.e (.one (.rop ts))), us, n)) (next : Nx P X ops dr Q r i st log ⟨gs ++ [(x, .e (.one (.rop ts)))], [], some s, some (.e (.agg (us.map C.pure))), [], []⟩) : Bc P X ops dr Q (r + 1) i st log :=
 Wy (DN (t2 h).1) (t2 (t2 h).2).1 ht hz (t2 (t2 (t2 h).2).2).1 (t2 (t2 (t2 h).2).2).2 next
theorem qx {x : Operand} {xs : List E} {y : E} {k s : Nat} (h : (hd st.env ops i X.n, opd st.env x, xs[k]?) = (some (.extract x k, s, gs), some (.tup xs), some y)) (next : Nx P X ops dr Q r i st log ⟨gs ++ [(x, .tup xs)], [], some s, some (.e y), [], []⟩) : Bc P X ops dr Q (r + 1) i st log :=
 Ve (DN (t2 h).1) (t2 (t2 h).2).1 (t2 (t2 h).2).2 next
theorem qb {x : Operand} {y : E} {s : Nat} {el : TypeId} (h : (hd st.env ops i X.n, opd st.env x, st.bx s) = (some (.box el x, s, gs), some (.e y), none)) (next : Nx P X ops dr Q r i st log ⟨gs ++ [(x, .e y)], [], some s, some (.e (.one (.ptr s 0))), [(s, .box y.cells)], [s]⟩) : Bc P X ops dr Q (r + 1) i st log :=
 cL (DN (t2 h).1) (t2 (t2 h).2).1 (t2 (t2 h).2).2 next
theorem qz {z : Value} {zs : List Value} {s : Nat} {el : TypeId} (hz : DS P el = some z) (h : (hd st.env ops i X.n, z.cells.toList, zs.all He, st.bx s) = (some (.alloc el, s, gs), zs, true, none)) (next : Nx P X ops dr Q r i st log ⟨gs ++ [], [], some s, some (.e (.one (.ptr s 0))), [(s, .box (zs.map fun v => C.pure (T.of v)))], [s]⟩) : Bc P X ops dr Q (r + 1) i st log :=
 Yp (DN (t2 h).1) hz (t2 (t2 h).2).1 (t2 (t2 (t2 h).2).2).1 (t2 (t2 (t2 h).2).2).2 next
theorem qs {x y : Operand} {b k n : Nat} {cells cells' : List C} {v : E} {t : TypeId} (hz : HQ P t n = true) (h : (RM ops i, opd st.env x, opd st.env y, st.bx b, v.cells.length, zH7 (k + n) (cells.length), Kq cells k v.cells) = (some (.store t x y), some (.e (.one (.ptr b k))), some (.e v), some (.box cells), n, true, cells')) (next : Nx P X ops dr Q r i st log ⟨[(x, .e (.one (.ptr b k))), (y, .e v)], [(b, .box cells)], none, none, [(b, .box cells')], []⟩) : Bc P X ops dr Q (r + 1) i st log :=
 Yr (t2 h).1 (t2 (t2 h).2).1 (t2 (t2 (t2 h).2).2).1 (t2 (t2 (t2 (t2 h).2).2).2).1 hz (t2 (t2 (t2 (t2 (t2 h).2).2).2).2).1 (zD0 (t2 (t2 (t2 (t2 (t2 (t2 h).2).2).2).2).2).1) (t2 (t2 (t2 (t2 (t2 (t2 h).2).2).2).2).2).2 next
theorem qi {x y : Operand} {s e : Nat} {rows : List (List T)} {row : List T} {t el : TypeId} {k : IntKind} {n : Int} (ht : sliceB P t el = true) (hz : HQ P el e = true) (h0 : 0 ≤ n) (hrow : rows[n.toNat]? = some row) (h : (hd st.env ops i X.n, opd st.env x, opd st.env y, row.length) = (some (.indexAddr t x y, s, gs), some (one (.sl rows)), some (vD (.int k n)), e)) (next : Nx P X ops dr Q r i st log ⟨gs ++ [(x, one (.sl rows)), (y, vD (.int k n))], [], some s, some (.e (.one (.rop row))), [], []⟩) : Bc P X ops dr Q (r + 1) i st log :=
 Yh (DN (t2 h).1) (t2 (t2 h).2).1 (t2 (t2 (t2 h).2).2).1 ht hz h0 hrow (t2 (t2 (t2 h).2).2).2 next
theorem qI {x y : Operand} {s e b : Nat} {rows : List (List T)} {row : List T} {t el : TypeId} {k : IntKind} {n : Int} (ht : sliceB P t el = true) (hz : HQ P el e = true) (h0 : 0 ≤ n) (hrow : rows[n.toNat]? = some row) (h : (hd st.env ops i X.n, opd st.env x, opd st.env y, st.bx b) = (some (.indexAddr t x y, s, gs), some (.e (.one (.own b))), some (vD (.int k n)), some (.vec e rows))) (next : Nx P X ops dr Q r i st log ⟨gs ++ [(x, .e (.one (.own b))), (y, vD (.int k n))], [(b, .vec e rows)], some s, some (.e (.one (.eptr b e n.toNat 0))), [], []⟩) : Bc P X ops dr Q (r + 1) i st log :=
 Xt (DN (t2 h).1) (t2 (t2 h).2).1 (t2 (t2 (t2 h).2).2).1 (t2 (t2 (t2 h).2).2).2 ht hz h0 hrow next
theorem qj {x : Operand} {b e ix k s : Nat} {rows : List (List T)} {row : List T} {u : T} {t : TypeId} (ht : FH P t false = true) (hrow : rows[ix]? = some row) (h : (hd st.env ops i X.n, opd st.env x, st.bx b, row[k]?) = (some (.load t x, s, gs), some (.e (.one (.eptr b e ix k))), some (.vec e rows), some u)) (next : Nx P X ops dr Q r i st log ⟨gs ++ [(x, .e (.one (.eptr b e ix k)))], [(b, .vec e rows)], some s, some (one u), [], []⟩) : Bc P X ops dr Q (r + 1) i st log :=
 Xv (DN (t2 h).1) (t2 (t2 h).2).1 ht (t2 (t2 (t2 h).2).2).1 hrow (t2 (t2 (t2 h).2).2).2 next
theorem qJ {x : Operand} {b e ix s : Nat} {rows : List (List T)} {row : List T} {t : TypeId} (ht : FH P t true = true) (hz : HQ P t e = true) (hrow : rows[ix]? = some row) (h : (hd st.env ops i X.n, opd st.env x, st.bx b) = (some (.load t x, s, gs), some (.e (.one (.eptr b e ix 0))), some (.vec e rows))) (next : Nx P X ops dr Q r i st log ⟨gs ++ [(x, .e (.one (.eptr b e ix 0)))], [(b, .vec e rows)], some s, some (.e (.agg (row.map C.pure))), [], []⟩) : Bc P X ops dr Q (r + 1) i st log :=
 WC (DN (t2 h).1) (t2 (t2 h).2).1 ht hz (t2 (t2 h).2).2 hrow next
theorem Ys {x : Operand} {s b k : Nat} (h : (hd st.env ops i X.n, opd st.env x) = (some (.nilCheck x, s, gs), some (.e (.one (.ptr b k))))) (next : Nx P X ops dr Q r i st log ⟨gs ++ [(x, .e (.one (.ptr b k)))], [], some s, some (.e (.one (.ptr b k))), [], []⟩) : Bc P X ops dr Q (r + 1) i st log :=
 T6 (DN (t2 h).1) (t2 h).2 next
theorem AX {k : IntKind} {xt yt : TypeId} {x y : Operand} {a b : Int} {s : Nat} (h : (hd st.env ops i X.n, opd st.env x, opd st.env y) = (some (.binOp .add xt x y yt, s, gs), some (vD (.int k a)), some (vD (.int k b)))) (next : Nx P X ops dr Q r i st log ⟨gs ++ [(x, vD (.int k a)), (y, vD (.int k b))], [], some s, some (vD (.int k (k.wrap (a + b)))), [], []⟩) : Bc P X ops dr Q (r + 1) i st log :=
 JB (DN (t2 h).1) (t2 (t2 h).2).1 (t2 (t2 h).2).2 (Yw _ _ _ _ _ _) rfl next
theorem J4 {k : IntKind} {xt yt : TypeId} {x y : Operand} {a b : Int} {s : Nat} (h : (hd st.env ops i X.n, opd st.env x, opd st.env y) = (some (.binOp .sub xt x y yt, s, gs), some (vD (.int k a)), some (vD (.int k b)))) (next : Nx P X ops dr Q r i st log ⟨gs ++ [(x, vD (.int k a)), (y, vD (.int k b))], [], some s, some (vD (.int k (k.wrap (a - b)))), [], []⟩) : Bc P X ops dr Q (r + 1) i st log :=
 JB (DN (t2 h).1) (t2 (t2 h).2).1 (t2 (t2 h).2).2 (Yb _ _ _ _ _ _) rfl next
theorem Ny {k : IntKind} {xt yt : TypeId} {x y : Operand} {a b : Int} {s : Nat} (h : (hd st.env ops i X.n, opd st.env x, opd st.env y) = (some (.binOp .mul xt x y yt, s, gs), some (vD (.int k a)), some (vD (.int k b)))) (next : Nx P X ops dr Q r i st log ⟨gs ++ [(x, vD (.int k a)), (y, vD (.int k b))], [], some s, some (vD (.int k (k.wrap (a * b)))), [], []⟩) : Bc P X ops dr Q (r + 1) i st log :=
 JB (DN (t2 h).1) (t2 (t2 h).2).1 (t2 (t2 h).2).2 (X8 _ _ _ _ _ _) rfl next
theorem Ch {k : IntKind} {xt yt : TypeId} {x y : Operand} {a b : Int} {s : Nat} (h : (hd st.env ops i X.n, opd st.env x, opd st.env y) = (some (.binOp .eql xt x y yt, s, gs), some (vD (.int k a)), some (vD (.int k b)))) (next : Nx P X ops dr Q r i st log ⟨gs ++ [(x, vD (.int k a)), (y, vD (.int k b))], [], some s, some (vD (.bool (a == b))), [], []⟩) : Bc P X ops dr Q (r + 1) i st log :=
 JB (DN (t2 h).1) (t2 (t2 h).2).1 (t2 (t2 h).2).2 (YL _ _ _ _ _ _) rfl next
theorem BC {k : IntKind} {xt yt : TypeId} {x y : Operand} {a b : Int} {s : Nat} (h : (hd st.env ops i X.n, opd st.env x, opd st.env y) = (some (.binOp .neq xt x y yt, s, gs), some (vD (.int k a)), some (vD (.int k b)))) (next : Nx P X ops dr Q r i st log ⟨gs ++ [(x, vD (.int k a)), (y, vD (.int k b))], [], some s, some (vD (.bool (a != b))), [], []⟩) : Bc P X ops dr Q (r + 1) i st log :=
 JB (DN (t2 h).1) (t2 (t2 h).2).1 (t2 (t2 h).2).2 (Y6 _ _ _ _ _ _) rfl next
theorem AT {k : IntKind} {xt yt : TypeId} {x y : Operand} {a b : Int} {s : Nat} (h : (hd st.env ops i X.n, opd st.env x, opd st.env y) = (some (.binOp .lss xt x y yt, s, gs), some (vD (.int k a)), some (vD (.int k b)))) (next : Nx P X ops dr Q r i st log ⟨gs ++ [(x, vD (.int k a)), (y, vD (.int k b))], [], some s, some (vD (.bool (decide (a < b)))), [], []⟩) : Bc P X ops dr Q (r + 1) i st log :=
 JB (DN (t2 h).1) (t2 (t2 h).2).1 (t2 (t2 h).2).2 (Yq _ _ _ _ _ _) rfl next
theorem U4 {k : IntKind} {xt yt : TypeId} {x y : Operand} {a b : Int} {s : Nat} (h : (hd st.env ops i X.n, opd st.env x, opd st.env y) = (some (.binOp .leq xt x y yt, s, gs), some (vD (.int k a)), some (vD (.int k b)))) (next : Nx P X ops dr Q r i st log ⟨gs ++ [(x, vD (.int k a)), (y, vD (.int k b))], [], some s, some (vD (.bool (decide (a ≤ b)))), [], []⟩) : Bc P X ops dr Q (r + 1) i st log :=
 JB (DN (t2 h).1) (t2 (t2 h).2).1 (t2 (t2 h).2).2 (Yt _ _ _ _ _ _) rfl next
theorem GB {k : IntKind} {xt yt : TypeId} {x y : Operand} {a b : Int} {s : Nat} (h : (hd st.env ops i X.n, opd st.env x, opd st.env y) = (some (.binOp .gtr xt x y yt, s, gs), some (vD (.int k a)), some (vD (.int k b)))) (next : Nx P X ops dr Q r i st log ⟨gs ++ [(x, vD (.int k a)), (y, vD (.int k b))], [], some s, some (vD (.bool (decide (b < a)))), [], []⟩) : Bc P X ops dr Q (r + 1) i st log :=
 JB (DN (t2 h).1) (t2 (t2 h).2).1 (t2 (t2 h).2).2 (Yy _ _ _ _ _ _) rfl next
theorem E0 {k : IntKind} {xt yt : TypeId} {x y : Operand} {a b : Int} {s : Nat} (h : (hd st.env ops i X.n, opd st.env x, opd st.env y) = (some (.binOp .geq xt x y yt, s, gs), some (vD (.int k a)), some (vD (.int k b)))) (next : Nx P X ops dr Q r i st log ⟨gs ++ [(x, vD (.int k a)), (y, vD (.int k b))], [], some s, some (vD (.bool (decide (b ≤ a)))), [], []⟩) : Bc P X ops dr Q (r + 1) i st log :=
 JB (DN (t2 h).1) (t2 (t2 h).2).1 (t2 (t2 h).2).2 (X3 _ _ _ _ _ _) rfl next
theorem Il {k : IntKind} {xt yt : TypeId} {x y : Operand} {a b : Int} {s : Nat} (h : (hd st.env ops i X.n, opd st.env x, opd st.env y) = (some (.binOp .and xt x y yt, s, gs), some (vD (.int k a)), some (vD (.int k b)))) (next : Nx P X ops dr Q r i st log ⟨gs ++ [(x, vD (.int k a)), (y, vD (.int k b))], [], some s, some (vD (.int k (AI k a b))), [], []⟩) : Bc P X ops dr Q (r + 1) i st log :=
 JB (DN (t2 h).1) (t2 (t2 h).2).1 (t2 (t2 h).2).2 (Yv _ _ _ _ _ _) rfl next
theorem Wf {k : IntKind} {xt yt : TypeId} {x y : Operand} {a b : Int} {s : Nat} (h : (hd st.env ops i X.n, opd st.env x, opd st.env y) = (some (.binOp .or xt x y yt, s, gs), some (vD (.int k a)), some (vD (.int k b)))) (next : Nx P X ops dr Q r i st log ⟨gs ++ [(x, vD (.int k a)), (y, vD (.int k b))], [], some s, some (vD (.int k (PP k a b))), [], []⟩) : Bc P X ops dr Q (r + 1) i st log :=
 JB (DN (t2 h).1) (t2 (t2 h).2).1 (t2 (t2 h).2).2 (ap _ _ _ _ _ _) rfl next
theorem H5 {k : IntKind} {xt yt : TypeId} {x y : Operand} {a b : Int} {s : Nat} (h : (hd st.env ops i X.n, opd st.env x, opd st.env y) = (some (.binOp .andNot xt x y yt, s, gs), some (vD (.int k a)), some (vD (.int k b)))) (next : Nx P X ops dr Q r i st log ⟨gs ++ [(x, vD (.int k a)), (y, vD (.int k b))], [], some s, some (vD (.int k (CZ k a b))), [], []⟩) : Bc P X ops dr Q (r + 1) i st log :=
 JB (DN (t2 h).1) (t2 (t2 h).2).1 (t2 (t2 h).2).2 (T2 _ _ _ _ _ _) rfl next
theorem I7 {k k' : IntKind} {xt yt : TypeId} {x y : Operand} {a b : Int} {s : Nat} (h : (hd st.env ops i X.n, opd st.env x, opd st.env y) = (some (.binOp .shl xt x y yt, s, gs), some (vD (.int k a)), some (vD (.int k' b)))) (hc : 0 ≤ b) (next : Nx P X ops dr Q r i st log ⟨gs ++ [(x, vD (.int k a)), (y, vD (.int k' b))], [], some s, some (vD (.int k (DQ k a b))), [], []⟩) : Bc P X ops dr Q (r + 1) i st log :=
 JB (DN (t2 h).1) (t2 (t2 h).2).1 (t2 (t2 h).2).2 (YW _ _ _ _ _ _ _ hc) rfl next
theorem GQ {k k' : IntKind} {xt yt : TypeId} {x y : Operand} {a b : Int} {s : Nat} (h : (hd st.env ops i X.n, opd st.env x, opd st.env y) = (some (.binOp .shr xt x y yt, s, gs), some (vD (.int k a)), some (vD (.int k' b)))) (hc : 0 ≤ b) (next : Nx P X ops dr Q r i st log ⟨gs ++ [(x, vD (.int k a)), (y, vD (.int k' b))], [], some s, some (vD (.int k (AY k a b))), [], []⟩) : Bc P X ops dr Q (r + 1) i st log :=
 JB (DN (t2 h).1) (t2 (t2 h).2).1 (t2 (t2 h).2).2 (YJ _ _ _ _ _ _ _ hc) rfl next
theorem Ml {k : IntKind} {xt yt : TypeId} {x y : Operand} {a b : Int} {s : Nat} (h : (hd st.env ops i X.n, opd st.env x, opd st.env y) = (some (.binOp .rem xt x y yt, s, gs), some (vD (.int k a)), some (vD (.int k b)))) (hc : b ≠ 0) (next : Nx P X ops dr Q r i st log ⟨gs ++ [(x, vD (.int k a)), (y, vD (.int k b))], [], some s, some (vD (.int k (a.tmod b))), [], []⟩) : Bc P X ops dr Q (r + 1) i st log :=
 JB (DN (t2 h).1) (t2 (t2 h).2).1 (t2 (t2 h).2).2 (X5 _ _ _ _ _ _ hc) rfl next
theorem CD {xt : TypeId} {x : Operand} {b : Bool} {s : Nat} (h : (hd st.env ops i X.n, opd st.env x) = (some (.unOp .not xt x, s, gs), some (bD b))) (next : Nx P X ops dr Q r i st log ⟨gs ++ [(x, bD b)], [], some s, some (vD (.bool (!b))), [], []⟩) : Bc P X ops dr Q (r + 1) i st log :=
 ef (DN (t2 h).1) (t2 h).2 (ZU _) rfl next
theorem Jx {xt yt : TypeId} {k k' : IntKind} {x : Operand} {a : Int} {s : Nat} (hs : (P.underlying xt).isSome = true) (ht : P3 P yt k = true) (h : (hd st.env ops i X.n, opd st.env x) = (some (.convert xt yt x, s, gs), some (vD (.int k' a)))) (next : Nx P X ops dr Q r i st log ⟨gs ++ [(x, vD (.int k' a))], [], some s, some (vD (.int k (k.wrap a))), [], []⟩) : Bc P X ops dr Q (r + 1) i st log :=
 Z0 (DN (t2 h).1) (t2 h).2 (W1 hs ht _ _) rfl next
theorem AJ {α : Type} {f : α → List T} {xs : List α} {x : Operand} {s : Nat} {t el : TypeId} (ht : sliceB P t el = true) (h : (hd st.env ops i X.n, opd st.env x) = (some (.call ⟨.builtin .len, #[x], #[t]⟩, s, gs), some (one (.sl (xs.map f))))) (next : Nx P X ops dr Q r i st log ⟨gs ++ [(x, one (.sl (xs.map f)))], [], some s, some (vD (.int .i64 (xs.length : Int))), [], []⟩) : Bc P X ops dr Q (r + 1) i st log :=
 Xd (DN (t2 h).1) (t2 h).2 (.sl _) trivial (zB0 _) ht next
theorem Ef {α : Type} {f : α → List T} {xs : List α} {x : Operand} {s b e : Nat} {t el : TypeId} (ht : sliceB P t el = true) (h : (hd st.env ops i X.n, opd st.env x, st.bx b) = (some (.call ⟨.builtin .len, #[x], #[t]⟩, s, gs), some (.e (.one (.own b))), some (.vec e (xs.map f)))) (next : Nx P X ops dr Q r i st log ⟨gs ++ [(x, .e (.one (.own b)))], [(b, .vec e (xs.map f))], some s, some (vD (.int .i64 (xs.length : Int))), [], []⟩) : Bc P X ops dr Q (r + 1) i st log :=
 Xd (DN (t2 h).1) (t2 (t2 h).2).1 (.own _ _ _) ⟨(t2 (t2 h).2).2, trivial⟩ (zB0 _) ht next
theorem Bg {t : TypeId} {s : Nat} {z : Value} {zs : List Value} {pl : List (Nat × Nat)} {cells : List C} {parts : Array (Nat × Operand)} {ps : List (Nat × Operand × E)} (hz : DS P t = some z) (hpl : IB P t = some pl) (h : (hd st.env ops i X.n, aJ st.env parts.toList, z.cells.toList, zs.all He, Ni (pl[·]?) (zs.map fun v => C.pure (T.of v)) (ps.map fun p => (p.1, p.2.2))) = (some (.build t parts, s, gs), some ps, zs, true, some cells)) (next : Nx P X ops dr Q r i st log ⟨gs ++ H3 ps, [], some s, some (.e (.agg cells)), [], []⟩) : Bc P X ops dr Q (r + 1) i st log :=
 have q := WW (t2 (t2 h).2).1
 XW ps (DN (t2 h).1) (by rw [← q.1]) q.2 hz (t2 (t2 (t2 h).2).2).1 (t2 (t2 (t2 (t2 h).2).2).2).1 hpl (t2 (t2 (t2 (t2 h).2).2).2).2 next
theorem Dp {t el : TypeId} {s n e : Nat} {z : Value} {rows : List (List T)} {parts : Array (Nat × Operand)} {ps : List (Nat × Operand × E)} (ht : sliceB P t el = true) (he : HQ P el e = true) (hz : DS P el = some z) (h : (hd st.env ops i X.n, aJ st.env parts.toList, st.bx s, Yn 0 ps, ps.length, zH7 (n * e) 16777216, (ps.map fun p => (p.1, p.2.2)).mapM (fun p => p.2.ts), rows.all (fun row => row.length == e)) = (some (.buildSlice t n parts, s, gs), some ps, none, true, n, true, some rows, true)) (next : Nx P X ops dr Q r i st log ⟨gs ++ H3 ps, [], some s, some (.e (.one (.own s))), [(s, .vec e rows)], [s]⟩) : Bc P X ops dr Q (r + 1) i st log :=
 have q := WW (t2 (t2 h).2).1
 have g := (t2 (t2 (t2 h).2).2).2
 Rp ps (DN (t2 h).1) (by rw [← q.1]) q.2 (t2 (t2 (t2 h).2).2).1 ht he hz (Uq (t2 g).1) (t2 (t2 g).2).1 (zD0 (t2 (t2 (t2 g).2).2).1) (t2 (t2 (t2 (t2 g).2).2).2).1 (t2 (t2 (t2 (t2 g).2).2).2).2 next
theorem Ax {f s : Nat} {xs : List Operand} {ds0 ds : List D} {rv : List (Nat × List (List T))} {res : D} {ts : Array TypeId} (ns : List Nat) (hc : Ap P f ds rv res) (hf : AA P f = true) (h : (hd st.env ops i X.n, W9 st.env xs, ds0.map D.nrm, ds.all R1, ns.length, Jw ns && (ns.all fun n => !Bv n), ns.all (fun n => d6 (st.bx n)), res.names.all (fun b => decide (b < rv.length))) = (some (.call ⟨.value (.func f), xs.toArray, ts⟩, s, gs), some ds0, ds, true, rv.length, true, true, true)) (next : Nx P X ops dr Q r i st log ⟨gs ++ HW xs ds0, [], some s, some (res.ren (nm ns)), Je ns rv, ns⟩) : Bc P X ops dr Q (r + 1) i st log :=
 have q := Ra (t2 (t2 h).2).1
 have g := (t2 (t2 (t2 h).2).2).2
 ZJ ns hc (DN (t2 h).1) hf q.1 q.2 (t2 (t2 (t2 h).2).2).1 (t2 g).1 (t2 (t2 g).2).1 (QH (t2 (t2 (t2 g).2).2).1) (RC (t2 (t2 (t2 (t2 g).2).2).2).1) (t2 (t2 (t2 (t2 g).2).2).2).2 next
theorem EK {f s : Nat} {xs : List Operand} {ds0 ds : List D} {rv : List (Nat × List (List T))} {res : D} {ts : Array TypeId} {bs : List (Nat × BL)} (ns lb : List Nat) (hc : Ap P f ds rv res) (hf : AA P f = true) (hfv : Sk rv) (h : (hd st.env ops i X.n, W9 st.env xs, df st.bx lb, ds0.map (fun d => (d.lend bs).nrm), ds.all R1, ns.length, Jw ns && (ns.all fun n => !Bv n), ns.all (fun n => d6 (st.bx n)), res.flat, res.names.all (fun b => decide (b < rv.length))) = (some (.call ⟨.value (.func f), xs.toArray, ts⟩, s, gs), some ds0, some bs, ds, true, rv.length, true, true, true, true)) (next : Nx P X ops dr Q r i st log ⟨gs ++ HW xs ds0, bs, some s, some (res.ren (nm ns)), Je ns rv, ns⟩) : Bc P X ops dr Q (r + 1) i st log :=
 have q := Ra (t2 (t2 h).2).1
 have g := (t2 (t2 (t2 h).2).2).2
 have g2 := (t2 (t2 (t2 g).2).2).2
 Ya ns bs hc (DN (t2 h).1) hf q.1 q.2 (Ws (t2 (t2 (t2 h).2).2).1) (t2 g).1 (t2 (t2 g).2).1 (t2 (t2 (t2 g).2).2).1 (QH (t2 g2).1) (RC (t2 (t2 g2).2).1) (t2 (t2 (t2 g2).2).2).1 hfv (t2 (t2 (t2 g2).2).2).2 next
theorem Cy {α : Type} {f : α → List T} {xs : List α} {ys : List α} {x y : Operand} {t t2' el el2 s e bytes b b2 : Nat} {z : Value} (ht : sliceB P t el = true) (ht2 : sliceB P t2' el2 = true) (he : HQ P el e = true) (hby : Fn P el bytes = true) (hz : DS P el = some z) (hlim : xs.length + ys.length ≤ C2) (h : (hd st.env ops i X.n, opd st.env x, st.bx b, opd st.env y, st.bx b2, st.bx s, z.cells.size, zH7 bytes 4096, [b].all (fun b => !Bv b)) = (some (.call ⟨.builtin .append, #[x, y], #[t, t2']⟩, s, gs), some (.e (.one (.own b))), some (.vec e (xs.map f)), some (.e (.one (.own b2))), some (.vec e (ys.map f)), none, e, true, true)) (next : Nx P X ops dr Q r i st log ⟨gs ++ [(x, .e (.one (.own b))), (y, .e (.one (.own b2)))], [(b, .vec e (xs.map f))] ++ [(b2, .vec e (ys.map f))], some s, some (.e (.one (.own s))), (s, .vec e ((xs ++ ys).map f)) :: H1 [b], [s]⟩) : Bc P X ops dr Q (r + 1) i st log :=
 Tc (DN (t2 h).1) (t2 (t2 h).2).1 (.own _ _ _) ⟨(t2 (t2 (t2 h).2).2).1, trivial⟩ (t2 (t2 (t2 (t2 h).2).2).2).1 (.own _ _ _) ⟨(t2 (t2 (t2 (t2 (t2 h).2).2).2).2).1, trivial⟩ (t2 (t2 (t2 (t2 (t2 (t2 h).2).2).2).2).2).1 ht ht2 he hby (zD0 (t2 (t2 (t2 (t2 (t2 (t2 (t2 (t2 h).2).2).2).2).2).2).2).1) hz (t2 (t2 (t2 (t2 (t2 (t2 (t2 h).2).2).2).2).2).2).1 (by simpa using hlim) (by simp) (t2 (t2 (t2 (t2 (t2 (t2 (t2 (t2 h).2).2).2).2).2).2).2).2 next
theorem I0 {α : Type} {f : α → List T} {xs : List α} {ys : List α} {x y : Operand} {t t2' el el2 s e bytes b : Nat} {z : Value} (ht : sliceB P t el = true) (ht2 : sliceB P t2' el2 = true) (he : HQ P el e = true) (hby : Fn P el bytes = true) (hz : DS P el = some z) (hf : ∀ x, (f x).length = e) (hlim : xs.length + ys.length ≤ C2) (h : (hd st.env ops i X.n, opd st.env x, st.bx b, opd st.env y, st.bx s, z.cells.size, zH7 bytes 4096, [b].all (fun b => !Bv b)) = (some (.call ⟨.builtin .append, #[x, y], #[t, t2']⟩, s, gs), some (.e (.one (.own b))), some (.vec e (xs.map f)), some (one (.sl (ys.map f))), none, e, true, true)) (next : Nx P X ops dr Q r i st log ⟨gs ++ [(x, .e (.one (.own b))), (y, one (.sl (ys.map f)))], [(b, .vec e (xs.map f))] ++ [], some s, some (.e (.one (.own s))), (s, .vec e ((xs ++ ys).map f)) :: H1 [b], [s]⟩) : Bc P X ops dr Q (r + 1) i st log :=
 Tc (DN (t2 h).1) (t2 (t2 h).2).1 (.own _ _ _) ⟨(t2 (t2 (t2 h).2).2).1, trivial⟩ (t2 (t2 (t2 (t2 h).2).2).2).1 (.sl _ _ (SD hf _)) trivial (t2 (t2 (t2 (t2 (t2 h).2).2).2).2).1 ht ht2 he hby (zD0 (t2 (t2 (t2 (t2 (t2 (t2 (t2 h).2).2).2).2).2).2).1) hz (t2 (t2 (t2 (t2 (t2 (t2 h).2).2).2).2).2).1 (by simpa using hlim) (by simp) (t2 (t2 (t2 (t2 (t2 (t2 (t2 h).2).2).2).2).2).2).2 next
end run
end Go.Lift
namespace Go.Lift
open Go.RowKit
variable {P : Program}
def cX (P : Program) : List D → List D → Prop
 | [], [] => True
 | a :: ar, b :: bs => (∀ (w : World) (G : Gh) (v : Value), HI P w G v a → HI P w G v b) ∧ cX P ar bs
 | _, _ => False
theorem cX.get : ∀ {ar bs : List D}, cX P ar bs → ar.length = bs.length ∧ ∀ (j : Nat) (b : D), bs[j]? = some b → ∃ a, ar[j]? = some a ∧ ∀ (w : World) (G : Gh) (v : Value), HI P w G v a → HI P w G v b
 | [], [], _ => ⟨rfl, fun j b h => by simp at h⟩
 | a :: ar, b :: bs, h => by
  obtain ⟨h1, h2⟩ := cX.get h.2
  refine ⟨by simp [h1], fun j c hj => ?_⟩
  cases j with
  | zero => simp at hj; subst hj; exact ⟨a, rfl, h.1⟩
  | succ j => obtain ⟨a', g1, g2⟩ := h2 j c (by simpa using hj); exact ⟨a', by simpa using g1, g2⟩
theorem Ex.weak {f : FuncId} {ds ds' : List D} {lent : List (BL × BL)} {rv : List BL} {res : D} (h : Ex P f ds lent rv res) (hp : cX P ds' ds) : Ex P f ds' lent rv res := by
 intro w G vs h1 hgk h2 h3 h4 hlen hargs
 obtain ⟨g1, g2⟩ := hp.get
 refine h w G vs h1 hgk h2 h3 h4 (by rw [hlen, g1]) fun j d hj => ?_
 obtain ⟨a, e1, e2⟩ := g2 j d hj
 exact e2 w G _ (hargs j a e1)
theorem W7 {f : FuncId} {g : List (Bool × List T) → Option T} (hf : AA P f = true) (hclo : ∀ ar t, g ar = some t → Ap P f (ar.map Rt) [] (one t)) {w : World} {G : Gh} {v : Value} (h : HI P w G v (.e (.one (.fnc f)))) : HI P w G v (.e (.one (.clo g))) :=
 Ur (S := G.S) hf hclo h
end Go.Lift
namespace Go.Lift
open Go.RowKit
variable {P : Program} {X : IX} {ops : Array Oper}
section run
variable {dr : Bool} {Q : St → Prop} {r i : Nat} {st : St} {log : List (Nat × CO)} {gs : List (Operand × D)}
end run
end Go.Lift
namespace Go.Lift
abbrev iC (x : Int) : C := .pure (.val (.int .i64 x))
abbrev sC (l : List (List T)) : C := .pure (.sl l)
abbrev iD (x : Int) : D := .e (.one (.pure (.val (.int .i64 x))))
abbrev pD (t : T) : D := .e (.one (.pure t))
abbrev oD (c : C) : D := .e (.one c)
theorem tv : True := trivial
end Go.Lift
namespace Go.Lift
open Go.RowKit
variable {P : Program} {X : IX} {ops : Array Oper}
section run
variable {dr : Bool} {Q : St → Prop} {r i : Nat} {st : St} {log : List (Nat × CO)} {o : Oper} {gs : List (Operand × D)}
end run
end Go.Lift
namespace Go.Lift
open Go.RowKit
variable {P : Program} {X : IX} {ops : Array Oper}
def nt (b : Nat) (ns : List Nat) (c : Nat) : Nat := if c = 90900 then b else ns.getD c 0
section run
variable {dr : Bool} {Q : St → Prop} {r i : Nat} {st : St} {log : List (Nat × CO)} {o : Oper} {gs : List (Operand × D)}
end run
end Go.Lift
namespace Go.Lift
open Go.RowKit
variable {P : Program} {X : IX} {ops : Array Oper}
end Go.Lift
namespace Go.Lift
open Go.RowKit
variable {P : Program} {X : IX} {ops : Array Oper}
section run
variable {dr : Bool} {Q : St → Prop} {r i : Nat} {st : St} {log : List (Nat × CO)} {o : Oper} {gs : List (Operand × D)}
end run
end Go.Lift
namespace Go.Lift
open Go.RowKit
variable {P : Program} {X : IX} {ops : Array Oper}
section run
variable {dr : Bool} {Q : St → Prop} {r i : Nat} {st : St} {log : List (Nat × CO)} {o : Oper} {gs : List (Operand × D)}
end run
end Go.Lift
namespace Go.Lift
open Go.RowKit
variable {P : Program} {X : IX} {ops : Array Oper}
section run
variable {dr : Bool} {Q : St → Prop} {r i : Nat} {st : St} {log : List (Nat × CO)} {o : Oper} {gs : List (Operand × D)}
end run
end Go.Lift
namespace Go.Lift
open Go.RowKit
variable {P : Program} {X : IX} {ops : Array Oper}
section run
variable {dr : Bool} {Q : St → Prop} {r i : Nat} {st : St} {log : List (Nat × CO)} {o : Oper} {gs : List (Operand × D)}
end run
end Go.Lift
namespace Go.Lift
open Go.RowKit
variable {P : Program} {X : IX}
theorem Bb {α : Type} {c : Operand} {x y : Code} {Q : Exit → St → Prop} {st : St} {b : Bool} {e1 e2 : Option α} {v : α} (h : AR b e1 e2 = some v) (ht : e1 = some v → W P X x Q st) (hf : e2 = some v → W P X y Q st) (hc : opd st.env c = some (bD b) := by exact rfl) : W P X (.cond c x y) Q st :=
 ZW hc (fun k => ht (Zn k h)) (fun k => hf (Zs k h))
theorem Eo {ops : Array Oper} {dr : Bool} {Q : St → Prop} {r i : Nat} {st : St} {log : List (Nat × CO)} {α : Type} {b : Bool} {e1 e2 : Option α} {v : α} (t : Nat) (h : AR b e1 e2 = some v) (hx : st.env t = some (bD b)) (h1 : e1 = some v → Bc P X ops dr Q r i (St.put st (some t) (some (bD true))) log) (h2 : e2 = some v → Bc P X ops dr Q r i (St.put st (some t) (some (bD false))) log) : Bc P X ops dr Q r i st log :=
 Ye hx (fun k => h1 (Zn k h)) (fun k => h2 (Zs k h))
theorem sn {V R : Type} {J : V → Option R} {r : R} {S : V → St} {s : St} {v : V} {el : List (Nat × D)} {bl : List (Nat × BL)} (l : List (Nat × Nat)) (h : J v = some r) (e : S v = mk el bl := by exact rfl) (h1 : (cK s.env el, bX (rn l) s.bx bl) = (cB (rn l) el, cM (rn l) bl) := by exact rfl) (h2 : ((Jw ((FX bl).map (rn l)) && N0 (rn l) (FX bl)) && (QA (FX bl) el && Qx (FX bl) bl)) = true := by exact rfl) : ∃ v, J v = some r ∧ GA P X s (S v) :=
 ⟨v, h, e ▸ sm l el bl h1 h2⟩
theorem et {y : Code} {id : Nat} {ops : Array Oper} {dr : Bool} {Q : Exit → St → Prop} {st : St} {n : Nat} (hm : P.follows .mixedOrders = true) (hn : ops.size = n)
  (h : Bc P X ops dr (fun st' => W P X y Q st') n 0 st []) : W P X (.seq (.region id ops dr) y) Q st :=
 AL (Ag hm hn h)
theorem BK {G : Prop} {α β : Type} {xs : List α} {i : Int} {f : α → Option β} {r : β} (h : (Bs xs i).bind f = some r) (k : ∀ x, 0 ≤ i → xs[i.toNat]? = some x → f x = some r → G) : G := by
 obtain ⟨x, a, b, c⟩ := Wu h
 exact k x a b c
theorem BZ {G : Prop} {α β : Type} {x : Option α} {f : α → Option β} {r : β} (h : x.bind f = some r) (k : ∀ a, x = some a → f a = some r → G) : G := by
 obtain ⟨a, b, c⟩ := bind_some h
 exact k a b c
theorem FT {G : Prop} {β : Type} {p : Prop} [Decidable p] {f : Unit → Option β} {r : β} (h : (DH p).bind f = some r) (k : p → f () = some r → G) : G := k (Hw h).1 (Hw h).2
section
variable {ops : Array Oper} {dr : Bool} {Q : St → Prop} {r i : Nat} {st : St} {log : List (Nat × CO)} {gs : List (Operand × D)}
theorem qe {x : Operand} {d : D} {s : Nat} (h : (hd st.env ops i X.n, opd st.env x) = (some (.assign x, s, gs), some d)) (k : Q (CO.upd ⟨gs ++ [(x, d)], [], some s, some d, [], []⟩ st)) : Bc P X ops false Q (0 + 1) i st log :=
 qa h (Ab k)
def Wk (n : Nat) (ops : Array Oper) (i : Nat) (st : St) : Option CO :=
 match (match aq ops i n with
  | some (_, s, t, want) => (match st.env t with
   | some (.e (.one (.pure (.val (.bool b))))) => (match b, want with
    | true, false => some (s, t, want)
    | false, true => some (s, t, want)
    | _, _ => none)
   | _ => none)
  | none => none) with
 | some (s, t, want) => some ⟨[(.tmp t, bD (!want))], [], some s, some uD, [], []⟩
 | none => match hd st.env ops i n with
  | some (.move x, s, gs) => (opd st.env x).map fun d => ⟨gs ++ [(x, d)], [], some s, some d, [], []⟩
  | _ => none
def aj (n : Nat) (ops : Array Oper) : Nat → Nat → St → List (Nat × CO) → Option (St × List (Nat × CO))
 | 0, _, st, log => some (st, log)
 | k + 1, i, st, log => match Wk n ops i st with
  | none => none
  | some l => aj n ops k (i + 1) (CO.upd l st) ((i, l) :: log)
theorem WF {l : CO} (h : Wk X.n ops i st = some l) (next : Nx P X ops dr Q r i st log l) : Bc P X ops dr Q (r + 1) i st log := by
 unfold Wk at h
 split at h
 ·rename_i s t want hh
  split at hh
  ·rename_i j s' t' want' ha
   split at hh
   ·rename_i b hb
    split at hh
    ·cases hh; cases h; exact qn (want := false) (by rw [ha, hb]; rfl) next
    ·cases hh; cases h; exact qn (want := true) (by rw [ha, hb]; rfl) next
    ·cases hh
   ·cases hh
  ·cases hh
 ·split at h
  ·rename_i x s gs' hh
   cases hd' : opd st.env x with
   | none => rw [hd'] at h; cases h
   | some d =>
    rw [hd'] at h
    cases h
    exact qm (by rw [hh, hd']) next
  ·cases h
theorem qw (k : Nat) {st' : St} {log' : List (Nat × CO)} (h : aj X.n ops k i st log = some (st', log')) (next : Bc P X ops dr Q r (i + k) st' log') : Bc P X ops dr Q (r + k) i st log := by
 induction k generalizing i st log with
 | zero => cases h; exact next
 | succ k ih =>
  rw [aj] at h
  split at h
  ·cases h
  ·rename_i l hl
   exact WF hl (ih h (by rwa [zF6, Nat.add_comm 1]))
end
theorem cw {f n : Nat} {fn : Func} {c : Code} {args : List D} {rv : List (Nat × List (List T))} {res : D} {rs : List ResultVar} (hf : P.funcs[f]? = some fn)
  (h : ∀ (w0 : World) (S0 : Nat → Prop), W P ⟨w0, S0, n, G0 S0⟩ c (fun e st => match e with | .normal | .ret => VS P rs st rv res | _ => False) (ae args))
  (hb : fn.body = some c := by exact rfl) (hn : fn.ntmps = n := by exact rfl) (hrs : fn.results.toList = rs := by exact rfl) (hl : args.length ≤ n := by exact I3 rfl) (hn9 : n ≤ 90000 := by exact I3 rfl) (hpub : args.all R1 = true := by exact rfl) : Ap P f args rv res :=
 P6 hf hb hn hrs hl hn9 hpub h
theorem tm {st : St} {t : Nat} {x : E} (h : st.env t = some (.e x) := by exact rfl) : bY P st [.tmp t] [x] := ⟨.tmp _ _ h, trivial⟩
end Go.Lift
namespace Go.Lift
open Go.RowKit Go.Shelf
theorem V7 {w w' : World} (h : V2 w.heap.size w w') : ∃ q os, w' = Go.Sort.grow (w.drewN q) os := by
 refine ⟨w'.drawn - w.drawn, w'.heap.extract w.heap.size w'.heap.size, ?_⟩
 have hh : w'.heap = w.heap ++ w'.heap.extract w.heap.size w'.heap.size := by
  apply Array.ext_getElem?
  intro k
  rw [zJ0]
  split
  ·rename_i hk; exact h.block k hk
  ·rename_i hk
   rw [Array.getElem?_extract]
   have := h.size
   split
   ·congr 1; omega
   ·rw [zD5]; omega
 have hd := h.drawn
 have ht := h.tape
 have ho := h.os
 have hu := h.output
 obtain ⟨hp', tp', dr', os', ou'⟩ := w'
 obtain ⟨hp, tp, dr, os, ou⟩ := w
 simp only at hh hd ht ho hu
 subst ht; subst ho; subst hu
 simp only [Go.Sort.grow, World.drewN, World.mk.injEq, and_true, true_and]
 exact ⟨hh, by omega⟩
def TA {α : Type} (c : α → α → Int) (x y : α) : Prop := c x y < 0 ∧ 0 < c y x
structure M3 {α : Type} (c : α → α → Int) (M : α → Prop) : Prop where
 self : ∀ x, M x → c x x = 0
 tri : ∀ x y, M x → M y → x = y ∨ TA c x y ∨ TA c y x
 trans : ∀ x y z, M x → M y → M z → TA c x y → TA c y z → TA c x z
namespace M3
variable {α : Type} {c : α → α → Int} {M : α → Prop}
theorem lt (O : M3 c M) {x y : α} (hx : M x) (hy : M y) : c x y < 0 ↔ TA c x y := by
 refine ⟨fun h => ?_, fun h => h.1⟩
 rcases O.tri x y hx hy with e | e | e
 ·subst e; have := O.self x hx; omega
 ·exact e
 ·have := e.2; omega
theorem asym {x y : α} (h : TA c x y) (k : TA c y x) : False := by have := h.1; have := k.2; omega
theorem eq (O : M3 c M) {x y : α} (hx : M x) (hy : M y) (h : ¬ c x y < 0) (k : ¬ c y x < 0) : x = y := by
 rcases O.tri x y hx hy with e | e | e
 ·exact e
 ·exact absurd e.1 h
 ·exact absurd e.1 k
theorem ntrans (O : M3 c M) {x y z : α} (hx : M x) (hy : M y) (hz : M z) (h : ¬ c x y < 0) (k : ¬ c y z < 0) : ¬ c x z < 0 := by
 rw [O.lt hx hy] at h; rw [O.lt hy hz] at k; rw [O.lt hx hz]
 intro q
 have h' : x = y ∨ TA c y x := by rcases O.tri x y hx hy with e | e | e; exact .inl e; exact absurd e h; exact .inr e
 have k' : y = z ∨ TA c z y := by rcases O.tri y z hy hz with e | e | e; exact .inl e; exact absurd e k; exact .inr e
 rcases h' with e | e
 ·subst e; exact k q
 ·rcases k' with f | f
  ·subst f; exact asym q e
  ·exact asym q (O.trans z y x hz hy hx f e)
end M3
theorem Ut {α : Type} {c : α → α → Int} : ∀ (a b : List α), (∀ x y, x ∈ a → y ∈ a → ¬ c x y < 0 → ¬ c y x < 0 → x = y) → a.Perm b → a.Pairwise (fun x y => ¬ c y x < 0) → b.Pairwise (fun x y => ¬ c y x < 0) → a = b
 | [], b, _, h, _, _ => (List.nil_perm.1 h).symm
 | x :: xs, [], _, h, _, _ => by cases List.perm_nil.1 h
 | x :: xs, y :: ys, hE, h, ha, hb => by
  obtain ⟨a1, a2⟩ := zI9.1 ha
  obtain ⟨b1, b2⟩ := zI9.1 hb
  have exy : x = y := by
   rcases zB6.1 (h.mem_iff.1 (List.mem_cons_self : x ∈ x :: xs)) with e | e
   ·exact e
   rcases zB6.1 (h.mem_iff.2 (List.mem_cons_self : y ∈ y :: ys)) with f | f
   ·exact f.symm
   exact hE x y (by simp) (by simp [f]) (b1 x e) (a1 y f)
  subst exy
  rw [Ut xs ys (fun u v hu hv => hE u v (by simp [hu]) (by simp [hv])) (List.perm_cons x |>.1 h) a2 b2]
section
variable {P : Program} {ρ : Ren} {α : Type}
end
end Go.Lift
namespace Go.Lift
open Go.RowKit Go.Shelf
section
variable {α : Type}
def Yg (cmp : α × α → Option Int) (x : α) : List α → List α
 | [] => [x]
 | y :: ys => match cmp (x, y) with
  | some a => if a ≤ 0 then x :: y :: ys else y :: Yg cmp x ys
  | none => x :: y :: ys
def V0 (cmp : α × α → Option Int) (xs : List α) : List α := xs.foldr (Yg cmp) []
def We (cmp : α × α → Option Int) (bq : α → α → Bool) (y z : α) : Bool := match cmp (y, z), cmp (z, y) with
 | some a, some b => (decide (a < 0) && decide (0 < b)) || (bq y z && decide (a = 0) && decide (b = 0))
 | _, _ => false
def db (cmp : α × α → Option Int) (bq : α → α → Bool) : List α → Bool
 | [] => true
 | y :: ys => (match cmp (y, y) with | some a => decide (a = 0) | none => false) && ys.all (We cmp bq y) && db cmp bq ys
def Ux (cmp : α × α → Option Int) (bq : α → α → Bool) (xs : List α) : Option (List α) :=
 if db cmp bq (V0 cmp xs) && decide (xs.length < 4611686018427387904) then some (V0 cmp xs) else none
theorem QJ (cmp : α × α → Option Int) (x : α) : ∀ l : List α, (Yg cmp x l).Perm (x :: l)
 | [] => List.Perm.refl _
 | y :: ys => by
  unfold Yg
  split
  ·split
   ·exact List.Perm.refl _
   ·exact ((QJ cmp x ys).cons y).trans (List.Perm.swap x y ys)
  ·exact List.Perm.refl _
theorem QB (cmp : α × α → Option Int) : ∀ l : List α, (V0 cmp l).Perm l
 | [] => List.Perm.refl _
 | x :: l => (QJ cmp x (V0 cmp l)).trans ((QB cmp l).cons x)
theorem WZ {cmp : α × α → Option Int} {bq : α → α → Bool} (hq : ∀ x y, bq x y = true → x = y) {y z : α} (h : We cmp bq y z = true) :
  ∃ a b, cmp (y, z) = some a ∧ cmp (z, y) = some b ∧ (TA (fun x y => (cmp (x, y)).getD 0) y z ∨ y = z) := by
 unfold We at h
 split at h
 ·rename_i a b e1 e2
  refine ⟨a, b, e1, e2, ?_⟩
  rw [zG0] at h
  rcases h with h | h
  ·rw [zA5] at h
   exact .inl ⟨by show (cmp (y, z)).getD 0 < 0; rw [e1]; exact of_decide_eq_true h.1, by show 0 < (cmp (z, y)).getD 0; rw [e2]; exact of_decide_eq_true h.2⟩
  ·rw [zA5, zA5] at h
   exact .inr (hq _ _ h.1.1)
 ·cases h
theorem U5 {cmp : α × α → Option Int} {bq : α → α → Bool} (hq : ∀ x y, bq x y = true → x = y) : ∀ {l : List α}, db cmp bq l = true →
  (∀ x y, x ∈ l → y ∈ l → cmp (x, y) = some ((cmp (x, y)).getD 0)) ∧ M3 (fun x y => (cmp (x, y)).getD 0) (· ∈ l) ∧ l.Pairwise (fun x y => ¬ (cmp (y, x)).getD 0 < 0)
 | [], _ => ⟨fun x y h => by simp at h, ⟨fun x h => by simp at h, fun x y h => by simp at h, fun x y z h => by simp at h⟩, List.Pairwise.nil⟩
 | y0 :: ys, h => by
  unfold db at h
  rw [zA5, zA5, zA2] at h
  obtain ⟨⟨h0, h1⟩, h2⟩ := h
  obtain ⟨i1, i2, i3⟩ := U5 hq h2
  have hs : cmp (y0, y0) = some 0 := by
   split at h0
   ·rename_i a e; rw [e, of_decide_eq_true h0]
   ·cases h0
  have hp := fun z hz => WZ hq (h1 z hz)
  have self : ∀ x, x ∈ y0 :: ys → (cmp (x, x)).getD 0 = 0 := fun x hx => by
   rcases zB6.1 hx with e | e
   ·subst e; rw [hs]; rfl
   ·exact i2.self x e
  have asy : ∀ x z, TA (fun x y => (cmp (x, y)).getD 0) x z → TA (fun x y => (cmp (x, y)).getD 0) z x → False := fun x z a b => M3.asym a b
  have first : ∀ z, z ∈ y0 :: ys → y0 = z ∨ TA (fun x y => (cmp (x, y)).getD 0) y0 z := fun z hz => by
   rcases zB6.1 hz with e | e
   ·exact .inl e.symm
   ·obtain ⟨a, b, _, _, g⟩ := hp z e; exact g.symm
  refine ⟨fun x y hx hy => ?_, ⟨self, fun x y hx hy => ?_, fun x y z hx hy hz a b => ?_⟩, zI9.2 ⟨fun z hz => ?_, i3⟩⟩
  ·rcases zB6.1 hx with e | e
   ·subst e
    rcases zB6.1 hy with f | f
    ·subst f; rw [hs]; rfl
    ·obtain ⟨a, b, g, _⟩ := hp y f; rw [g]; rfl
   ·rcases zB6.1 hy with f | f
    ·subst f; obtain ⟨a, b, _, g, _⟩ := hp x e; rw [g]; rfl
    ·exact i1 x y e f
  ·rcases zB6.1 hx with e | e
   ·subst e; rcases first y hy with f | f
    ·exact .inl f
    ·exact .inr (.inl f)
   ·rcases zB6.1 hy with f | f
    ·subst f; rcases first x hx with g | g
     ·exact .inl g.symm
     ·exact .inr (.inr g)
    ·exact i2.tri x y e f
  ·have nofirst : ∀ u, u ∈ y0 :: ys → TA (fun x y => (cmp (x, y)).getD 0) u y0 → False := fun u hu a => by
    rcases first u hu with f | f
    ·subst f; exact asy _ _ a a
    ·exact asy _ _ a f
   rcases zB6.1 hy with f | f
   ·subst f; exact (nofirst x hx a).elim
   rcases zB6.1 hz with g | g
   ·subst g; exact (nofirst y hy b).elim
   rcases zB6.1 hx with e | e
   ·subst e
    rcases first z hz with q | q
    ·subst q; exact (asy _ _ a b).elim
    ·exact q
   ·exact i2.trans x y z e f g a b
  ·rcases first z (zG8 _ hz) with f | f
   ·subst f; rw [hs]; simp
   ·have := f.2; simp only at this; omega
theorem WK {cmp : α × α → Option Int} {bq : α → α → Bool} (hq : ∀ x y, bq x y = true → x = y) {xs ys : List α} (h : Ux cmp bq xs = some ys) :
  (∀ x y, x ∈ xs → y ∈ xs → cmp (x, y) = some ((cmp (x, y)).getD 0)) ∧ M3 (fun x y => (cmp (x, y)).getD 0) (· ∈ xs) ∧ ys.Perm xs ∧ ys.Pairwise (fun x y => ¬ (cmp (y, x)).getD 0 < 0) ∧ xs.length < 4611686018427387904 := by
 unfold Ux at h
 split at h
 ·rename_i hc
  rw [zA5] at hc
  cases h
  have hp := QB cmp xs
  obtain ⟨h1, h2, h3⟩ := U5 hq hc.1
  have hm : ∀ x, x ∈ xs → x ∈ V0 cmp xs := fun x hx => hp.mem_iff.2 hx
  exact ⟨fun x y hx hy => h1 x y (hm x hx) (hm y hy), ⟨fun x hx => h2.self x (hm x hx), fun x y hx hy => h2.tri x y (hm x hx) (hm y hy), fun x y z hx hy hz => h2.trans x y z (hm x hx) (hm y hy) (hm z hz)⟩, hp, h3, of_decide_eq_true hc.2⟩
 ·cases h
end
end Go.Lift
namespace Go.Lift
open Option renaming bind_some → oS
open Go.RowKit Go.ChangeShapes Go.WideShapes
variable {P : Program} {X : IX} {ops : Array Oper}
section run
variable {dr : Bool} {Q : St → Prop} {r i : Nat} {st : St} {log : List (Nat × CO)} {o : Oper} {gs : List (Operand × D)}
end run
theorem ah {W : World} (h : ∀ x, x ∈ Oq → ∀ g, P.globalNamed x.1 = some g → Lib.TabIs P W x.1 x.2.1 x.2.2) : XN P W (T5 W) := fun x hx g hg => by
 have h1 := h x hx g hg
 refine ⟨?_, h1⟩
 unfold Lib.TabIs World.var? at h1
 rw [hg, oS] at h1
 show g < W.heap.size
 split at h1
 ·rename_i e; exact (zK8.1 e).1
 ·cases h1
theorem Tb {H : Type} {enc : TypeId × Value → H} {C : Checked} {os : Os} {f : FuncId} {fn : Func} {s : ChangeSpec} {conds : List PathCond} {tb : TypeId} {d : Nat} {laid : List (String × DataW Unit)}
  (own : ownKnob C.prog.godebug = none) (started : os.Started) (noInit : C.prog.inits.idxOf? f = none) (hfn : C.prog.funcs[f]? = some fn)
  (witness : ∃ (w : World) (tape : Tape) (i : Input), w.os = os ∧ (w.forCall tape i).Shaped C.prog ∧ i.vars = [] ∧ Input.okWide C.prog (w.forCall tape i) .any w.heap.size f i ∧
   ((s.pre enc C.prog fn conds false (w.forCall tape i).memory i.args ∧ laidMetH C.prog laid (w.forCall tape i).memory) ∧ sizedMet enc C.prog fn (OpenSpec.ofChange s) false (w.forCall tape i).memory i.args) ∧ ({} : Assume).holds C.prog (lone (Frame.enter C.prog f i.args .normal) [] (w.forCall tape i)))
  (hv : s.vars = []) (hs : ∀ ds : List (DataW H), ds.length = fn.params.toList.length → s.fn H (ds ++ []) = { results := [.lit (.bool true)], args := ds })
  (hres : fn.resultTypes = #[tb]) (htb : C.prog.underlying tb = some .bool) (hl : laidOutB C.prog = true)
  (hread : (fn.params.toList.all fun t => C.prog.readableRec t && decide (t < C.prog.types.size)) = true) (hplain : (fn.params.toList.all (J9 C.prog d)) = true)
  (law : ∀ Ds, KW C.prog d fn.params.toList Ds → Ap C.prog f Ds [] (.e (.one (.pure (.val (.bool true))))))
  (hp : (laid.all fun x => x.2.handleName?.isNone) = true) (hgk : ∀ W, laidMet C.prog laid W → XN C.prog W (T5 W)) :
  ReturnsInHanded {} C os f .any (fun w args => (s.pre enc C.prog fn conds false w args ∧ laidMetH C.prog laid w) ∧ sizedMet enc C.prog fn (OpenSpec.ofChange s) false w args) (s.post enc C.prog fn false true false false) := by
 refine returnsInHanded_of_change_and (X := fun w _ => laidMetH C.prog laid w) (fun _ _ _ hh h => by rw [MakeChecks.laidMetH_plain _ _ _ hp] at h ⊢; exact h.of_heap hh) own started noInit hfn witness ?_
 intro W base args ds gs before hval hW _ _ hL _
 rw [MakeChecks.laidMetH_plain _ _ _ hp] at hL
 have hW' := hW
 obtain ⟨p, q, hA, hV, rfl, _, _⟩ := hW
 rw [hv] at hV
 obtain ⟨rfl, rfl⟩ := trodVars_none hV
 obtain ⟨Ds, h1, h2, h3, h4⟩ := UA hplain (fun j t v hj hvj => hval j t v (by simpa using hj) (by simpa using hvj)) hA
 have hlt : ∀ x ∈ p, x.block < W.heap.size := fun x hx => hW'.lt x (by simp [hx])
 refine (law Ds h1 W (T5 W) args (fun β h => h) (hgk W hL) (by simpa using h2) ?_).mono ?_
 ·intro j x hj
  obtain ⟨v, g1, g2⟩ := h4 j x hj
  have : Av args j = v := by unfold Av; rw [show args[j]? = some v from by simpa using g1]; rfl
  rw [this]; exact g2
 ·rintro e W' ⟨v, G', rfl, hb, _, _, hr, _⟩
  have hvb : v = .bool true := by
   have h5 : DU W' G'.S v (.val (.bool true)) := hr
   cases h5; rfl
  subst hvb
  refine ⟨_, rfl, ds, [], p ++ [], [], p, [], hW', ?_, ?_, ?_, hb.frame _, fun h => by cases h⟩
  ·rw [hs ds h3, hres]
   exact trodAll_mk1 (shut_bool htb true)
  ·rw [hs ds h3]
   exact Mk hl hb.toBelow hread hA hlt
  ·rw [hs ds h3, hv]
   rfl
end Go.Lift
namespace Go.Lift
open Go.RowKit Go.Shelf
end Go.Lift
namespace Go.Lift
open Go.RowKit
variable {P : Program} {X : IX}
end Go.Lift
namespace Go.Lift
open Go.RowKit
variable {P : Program} {X : IX} {ops : Array Oper}
section run
variable {dr : Bool} {Q : St → Prop} {r i : Nat} {st : St} {log : List (Nat × CO)} {o : Oper} {gs : List (Operand × D)}
end run
end Go.Lift
namespace Go.Lift
open Go.RowKit Go.Shelf
def dJ (n : Int) : Option Int := if 0 ≤ n ∧ n < 18446744073709551616 then some (Lib.ctz 64 n.toNat) else none
theorem en {P : Program} {ρ : Ren} (L : Go.Proofs.Lays7.n27 P ρ) (hg : P.globalNamed "math/bits.deBruijn64tab" = some (ρ.g 1)) {n r : Int} (h : dJ n = some r) :
  Ap P (ρ.f 27) [.e (.one (.pure (.val (.int .u64 n))))] [] (.e (.one (.pure (.val (.int .i64 r))))) := by
 intro w S vs hS hgk hlen hrd
 have h0 : DU w S (Av vs 0) (.val (.int .u64 n)) := hrd 0 _ rfl
 have hv : Av vs 0 = .int .u64 n := Fi h0
 have hvs : vs = #[.int .u64 n] := by
  have h2 : vs.size = 1 := hlen
  apply Array.ext (by simp [h2])
  intro i h1 _
  match i, h1 with
  | 0, h1 => rw [← hv]; simp [Av, h1]
  | i + 1, h1 => omega
 unfold dJ at h
 split at h
 ·rename_i hb
  cases h
  obtain ⟨m, rfl⟩ := zA8 hb.1
  have ht : Lib.TabIs P w "math/bits.deBruijn64tab" .u8 Vv := (hgk ("math/bits.deBruijn64tab", .u8, Vv) (by simp [Oq]) _ hg).2
  have htab : Go.Proofs.TabAt (ρ.g 1) Lib.deBruijn64tab w := fun j hj => by
   rw [ht.cell hg j (by simpa [Vv, Lib.deBruijn64tab] using hj)]
   have key : ∀ j, j < 64 → Vv.getD j 0 = ((Lib.deBruijn64tab.getD j 0 : Nat) : Int) := by decide +kernel
   rw [key j (by simpa [Lib.deBruijn64tab] using hj)]
  rw [hvs]
  refine (Go.Proofs.Any7.bits_TrailingZeros L m (by omega) w fun _ => htab).mono ?_
  rintro e w' ⟨rfl, rfl⟩
  exact ⟨_, G0 S, rfl, ⟨⟨rfl, rfl, rfl, zB1 _, fun i _ => rfl⟩, zB1 _⟩, fun _ h => h, fun _ h => .inl h, .val _ rfl, fun i x hi => by simp at hi, fun i β hi => by simp at hi, fun i l β hi => by simp at hi⟩
 ·cases h
end Go.Lift
namespace Go.Lift
open Go.RowKit Go.Shelf
section
variable {P : Program} {ρ : Ren} {α : Type}
theorem Pr {β' : Type} [Inhabited β'] (enc : β' → Value) (w : World) (β m : Nat) (d : Array β') (os : Array Obj) {γ : Nat} (h : γ < w.heap.size) (hne : γ ≠ β) : (Go.Proofs.sortWorld enc w β 0 m d os).heap[γ]? = w.heap[γ]? := by
 unfold Go.Proofs.sortWorld Go.Sort.grow Go.Sort.putRow Go.Sort.mapBlock Go.Sort.ahead
 simp only
 rw [zJ0, if_pos (by simpa using h), zJ7, if_neg (Ne.symm hne)]
theorem SY {β' : Type} [Inhabited β'] (enc : β' → Value) (w : World) (β m : Nat) (d : Array β') (os : Array Obj) {arr : Array Value} {el : TypeId} {fz : Nat × Nat} (h : w.heap[β]? = some (.cells arr el fz)) : (Go.Proofs.sortWorld enc w β 0 m d os).heap[β]? = some (.cells (Go.Sort.putCells enc 0 d arr) el fz) := by
 unfold Go.Proofs.sortWorld Go.Sort.grow Go.Sort.putRow Go.Sort.mapBlock Go.Sort.ahead
 simp only
 have hlt : β < w.heap.size := (zK8.1 h).1
 rw [zJ0, if_pos (by simpa using hlt), zJ7, if_pos rfl, h]
 rfl
theorem O3 {β' : Type} [Inhabited β'] (enc : β' → Value) (w : World) (β m : Nat) (d : Array β') (os : Array Obj) : w.heap.size ≤ (Go.Proofs.sortWorld enc w β 0 m d os).heap.size := by
 unfold Go.Proofs.sortWorld Go.Sort.grow Go.Sort.putRow Go.Sort.mapBlock Go.Sort.ahead
 simp
theorem Tf (L : Go.Proofs.SlLaysF.n6 P ρ) {e : α → List T} {t : α → T} (he : ∀ x, e x = [t x]) {g : List (Bool × List T) → Option T} {c : α → α → Int} {xs ys : List α}
  (hg : ∀ x y, x ∈ xs → y ∈ xs → g [(false, e x), (false, e y)] = some (.val (.int .i64 (c x y)))) (O : M3 c (· ∈ xs)) (hp : ys.Perm xs) (hs : ys.Pairwise fun x y => ¬ c y x < 0) (hl : xs.length < 4611686018427387904) :
  Ex P (ρ.f 6) [.e (.one (.own 90000)), .e (.one (.clo g))] [(.vec 1 (xs.map e), .vec 1 (ys.map e))] [] (.tup []) := by
 intro w G vs hS hgk hlb hla hli hlen hrd
 have hb := hlb 0 _ rfl
 have h0 : ER P w G (Av vs 0) (.own 90000) := hrd 0 _ rfl
 obtain ⟨f, caps, hv, ⟨fn, hf1, hf2, hf3⟩, hcall⟩ : MW P w G.S (Av vs 1) g := hrd 1 _ rfl
 have hvs : vs = #[Av vs 0, Av vs 1] := by
  have h2 : vs.size = 2 := hlen
  apply Array.ext (by simp [h2])
  intro i h1 _
  match i, h1 with
  | 0, h1 => simp [Av, h1]
  | 1, h1 => simp [Av, h1]
  | i + 2, h1 => omega
 have hys : ys.length = xs.length := hp.length_eq
 rw [hvs, h0.1, hv]
 by_cases hx0 : xs = []
 ·subst hx0
  have hy : ys = [] := List.perm_nil.1 hp
  subst hy
  obtain ⟨p, cap, hh⟩ : ∃ p cap, G.hd 90000 = .slice p 0 cap := by
   rcases hb with ⟨a, b1, _, _⟩ | ⟨β, cap, arr, el, _, b1, _⟩
   ·exact ⟨_, _, b1⟩
   ·exact ⟨_, _, b1⟩
  rw [hh]
  refine (Go.Proofs.AnyF.slices_SortFunc_none { L with } p cap _ w).mono ?_
  rintro e' w' ⟨rfl, rfl⟩
  refine ⟨_, G, rfl, Dw.refl _ _ _, fun _ h => h, fun _ h => .inl h, ⟨#[], rfl, rfl, fun j x hj => by simp at hj⟩, fun i x hi => ?_, fun i x hi => by simp at hi, fun _ _ => ⟨rfl, rfl, rfl⟩, fun i β hi h => (hla i β hi h).2, fun i β hi => by simp at hi, fun i l β hi => by simp at hi⟩
  match i, hi with
  | 0, hi => cases hi; exact hb
  | i + 1, hi => simp at hi
 ·rcases hb with ⟨a, b1, b2, b3⟩ | ⟨β, cap, arr, el, b0, b1, b2, b3, b4, b5, b6⟩
  ·exact absurd (zH6.1 b2) hx0
  ·have hβ : β < w.heap.size ∧ ¬ G.S β := hla 0 β (by simp) (.inl b0)
   rw [Nat.mul_one] at b4
   have b3' : xs.length ≤ cap := by simpa using b3
   let A := { p : Value × α // p.2 ∈ xs ∧ DU w G.S p.1 (t p.2) }
   let at' : Fin xs.length → A := fun i => ⟨(Av arr i.1, xs[i.1]), zE9 i.2, by
    have := b6 i.1 (e xs[i.1]) 0 (t xs[i.1]) (by simp) (by rw [he]; rfl)
    simpa using this⟩
   have hpos : 0 < xs.length := List.length_pos_iff.2 hx0
   letI : Inhabited A := ⟨at' ⟨0, hpos⟩⟩
   let d : Array A := Array.ofFn at'
   have hds : d.size = xs.length := by simp [d]
   have hdg : ∀ i (h : i < xs.length), d[i]! = at' ⟨i, h⟩ := fun i h => by rw [getElem!_pos d i (by omega)]; simp [d]
   have hdl : d.toList.map (fun x => x.1.2) = xs := by
    apply List.ext_getElem
    ·simp [hds]
    ·intro i h1 h2
     simp [d, at']
   let enc : A → Value := fun x => x.1.1
   have h1c : Go.Proofs.OneCell enc := by
    intro x
    have := (x.2.2).one
    revert this
    show He (enc x) = true → _
    generalize enc x = q
    intro h
    cases q <;> first | rfl | cases h
   let cf : A → A → Int := fun x y => c x.1.2 y.1.2
   have hlt : ∀ x y : A, Go.Proofs.ltOf cf x y = decide (c x.1.2 y.1.2 < 0) := fun _ _ => rfl
   have hO : Go.Sort.SWO (Go.Proofs.ltOf cf) := by
    refine ⟨fun x => ?_, fun x y z => ?_, fun x y z => ?_⟩
    ·rw [hlt, O.self _ x.2.1]; rfl
    ·rw [hlt, hlt, hlt]; intro h1 h2
     have h1 := (O.lt x.2.1 y.2.1).1 (of_decide_eq_true h1)
     have h2 := (O.lt y.2.1 z.2.1).1 (of_decide_eq_true h2)
     exact decide_eq_true (O.trans _ _ _ x.2.1 y.2.1 z.2.1 h1 h2).1
    ·rw [hlt, hlt, hlt]; intro h1 h2
     exact decide_eq_false (O.ntrans x.2.1 y.2.1 z.2.1 (of_decide_eq_false h1) (of_decide_eq_false h2))
   have eg : ∀ args w, (callFunc f args).run P w = .ok (.enter f args) w := Jj (by unfold AA; rw [hf1]; simp [hf2]; simpa using hf3)
   have hsame : ∀ (m : Nat) (dk : Array A) (os : Array Obj) (γ : Nat), G.S γ → (Go.Proofs.sortWorld enc w β 0 m dk os).heap[γ]? = w.heap[γ]? := fun m dk os γ hγ => Pr enc w β m dk os (hS γ hγ) (fun q => hβ.2 (q ▸ hγ))
   have hcmp : Go.Proofs.CmpLays1 P f caps enc cf β 0 d.size w := by
    intro m os dk hdk x y
    refine (hcall _ G.S (fun _ h => h) (hsame m dk os) (fun γ hγ => Nat.lt_of_lt_of_le (hS γ hγ) (O3 enc w β m dk os)) (hgk.mono (hsame m dk os) (fun _ h => h)) #[enc x, enc y] [(false, e x.1.2), (false, e y.1.2)] (.val (.int .i64 (c x.1.2 y.1.2))) rfl ?_ (hg _ _ x.2.1 y.2.1)).mono ?_
    ·have one : ∀ z : A, ZZ (Go.Proofs.sortWorld enc w β 0 m dk os) G.S (enc z) (false, e z.1.2) := fun z => ⟨_, he _, z.2.2.mono (hsame m dk os) (fun _ h => h)⟩
     intro j q hq
     match j, hq with
     | 0, hq => cases hq; exact one x
     | 1, hq => cases hq; exact one y
     | j + 2, hq => simp at hq
    ·rintro e' w'' ⟨v', S'', rfl, hbel, _, _, hr⟩
     cases hr
     exact ⟨rfl, V7 hbel⟩
   have hH : Go.Sort.Holds enc w β 0 d := by
    intro j hj
    have hj' : j < xs.length := by rw [← hds]; exact hj
    have hsz : j < arr.size := by omega
    rw [hdg _ hj', zA3]
    exact ⟨by simp [World.cell?, b2, IP hsz, enc, at'], by simp [World.frozen?, b2]⟩
   have hhd : G.hd 90000 = .slice (some ⟨β, 0, none⟩) d.size cap := by rw [b1, hds, zB0]
   rw [hhd]
   refine (Go.Proofs.Any.slices_SortFunc L enc h1c cf hO f caps β 0 cap d w eg hcmp hH hβ.1 (by rw [hds]; exact hl)).mono ?_
   rintro e' w' ⟨rfl, d', n, os, hpm, hsd, rfl⟩
   have hds' : d'.size = d.size := hpm.1
   have hpl : d'.toList.Perm d.toList := by
    have h := hpm.2.2
    have e1 : (d'.extract 0 d.size).toList = d'.toList := by rw [← hds']; simp
    have e2 : (d.extract 0 d.size).toList = d.toList := by simp
    rwa [e1, e2] at h
   have hlist : d'.toList.map (fun x => x.1.2) = ys := by
    refine Ut (c := c) _ _ (fun x y hx hy h1 h2 => ?_) (((hpl.map _).trans (by rw [hdl])).trans hp.symm) ?_ hs
    ·obtain ⟨a, _, rfl⟩ := zB5.1 hx
     obtain ⟨b, _, rfl⟩ := zB5.1 hy
     exact O.eq a.2.1 b.2.1 h1 h2
    ·rw [zL1, zH5]
     intro i j hi hj hij
     have := hsd i j (zA9 _) hij (by rw [← hds']; simpa using hj)
     rw [getElem!_pos d' i (by simpa using hi), getElem!_pos d' j (by simpa using hj), hlt] at this
     simpa using of_decide_eq_false this
   have hat : (Go.Proofs.sortWorld enc w β 0 n d' os).heap[β]? = some (.cells (Go.Sort.putCells enc 0 d' arr) el (0, 0)) := SY enc w β n d' os b2
   have hlen' : d'.size = ys.length := by rw [hds', hds, hys]
   refine ⟨_, G, rfl, ⟨rfl, rfl, rfl, O3 enc w β n d' os, by show w.drawn ≤ w.drawn + n; omega, fun γ hγ hL => Pr enc w β n d' os hγ fun q => hL ⟨0, by simp, .inl (q ▸ b0)⟩⟩, fun _ h => h, fun _ h => .inl h, ⟨#[], rfl, rfl, fun j x hj => by simp at hj⟩, fun i x hi => ?_, fun i x hi => by simp at hi, fun _ _ => ⟨rfl, rfl, rfl⟩, fun i γ hi h => (hla i γ hi h).2, fun i β hi => by simp at hi, fun i l β hi => by simp at hi⟩
   match i, hi with
   | i + 1, hi => simp at hi
   | 0, hi =>
    cases hi
    refine .inr ⟨β, cap, _, el, b0, by rw [hhd, hds, zB0, hys], hat, by rw [zB0, hys]; exact b3', by simpa [Go.Sort.putCells] using b4, ?_, ?_⟩
    ·intro i row hi
     rw [zA1] at hi
     cases hq : ys[i]? with
     | none => rw [hq] at hi; cases hi
     | some x => rw [hq] at hi; cases hi; rw [he]; rfl
    ·intro i row j u hi hj
     rw [zA1] at hi
     cases hq : ys[i]? with
     | none => rw [hq] at hi; cases hi
     | some x =>
      rw [hq] at hi; cases hi
      have hil : i < d'.size := by rw [hlen']; exact AF hq
      rw [he] at hj
      obtain ⟨rfl, rfl⟩ : j = 0 ∧ t x = u := by
       cases j with
       | zero => exact ⟨rfl, by simpa using hj⟩
       | succ j => simp at hj
      have hx : (d'[i]!).1.2 = x := by
       rw [← hlist, zA1] at hq
       rw [getElem!_pos d' i hil]
       rw [show d'.toList[i]? = some d'[i] from by simp [hil]] at hq
       simpa using hq
      have hr := (d'[i]!).2.2
      rw [hx] at hr
      have hasz : i < arr.size := by omega
      have hcell : Av (Go.Sort.putCells enc 0 d' arr) (i * 1 + 0) = (d'[i]!).1.1 := by
       unfold Av Go.Sort.putCells
       rw [Nat.mul_one, zF7, Array.getElem?_mapIdx, show arr[i]? = some (Av arr i) from IP hasz]
       simp only [zE1, zC6, zA9, true_and, zA3, Nat.sub_zero]
       rw [if_pos hil]
      rw [hcell]
      exact hr.mono (hsame n d' os) (fun _ h => h)
theorem XD {P : Program} {ρ : Ren} (L : Go.Proofs.SlLaysF.n6 P ρ) {e : α → List T} {t : α → T} (he1 : ∀ x, e x = [t x]) (he : VI e) {bq : α → α → Bool} (hq : ∀ x y, bq x y = true → x = y) {cmp : α × α → Option Int} {xs ys : List α} (h : Ux cmp bq xs = some ys) :
  Ex P (ρ.f 6) [.e (.one (.own 90000)), .e (.one (.clo (Hn (aH false e false e) (fun n => .val (.int .i64 n)) cmp)))] [(.vec 1 (xs.map e), .vec 1 (ys.map e))] [] (.tup []) := by
 obtain ⟨h1, h2, h3, h4, h5⟩ := WK hq h
 refine Tf L he1 (c := fun x y => (cmp (x, y)).getD 0) (fun x y hx hy => ?_) h2 h3 h4 h5
 exact J3 (ea := aH false e false e) (er := fun n => T.val (.int .i64 n)) (Yi false e false e he he) (x := (x, y)) (h1 x y hx hy)
end
end Go.Lift
namespace Go.Lift
def Ak (n : Int) : List T := [.val (.int .i64 n)]
def DV (n : Int) : List T := [.val (.int .u8 n)]
def dI (n : Int) : List T := [.val (.int .u16 n)]
def DA (n : Int) : List T := [.val (.int .u64 n)]
abbrev O1 (n : Int) : T := .val (.int .i64 n)
abbrev tB (b : Bool) : T := .val (.bool b)
def eB (b : Bool) : List T := [.val (.bool b)]
def EX {α : Type} (f : α → List T) (xs : List α) : List T := [.sl (xs.map f)]
theorem RD : VI Ak := ⟨by intro x y h; simpa [Ak] using h⟩
theorem aS : VI DV := ⟨by intro x y h; simpa [DV] using h⟩
theorem Ud : VI DA := ⟨by intro x y h; simpa [DA] using h⟩
theorem dE : VI eB := ⟨by intro x y h; simpa [eB] using h⟩
theorem cm {α : Type} {f : α → List T} (h : VI f) : VI (EX f) := ⟨by intro x y hx; simp only [EX, List.cons.injEq, T.sl.injEq, and_true] at hx; exact LZ h.inj _ _ hx⟩
structure HC where
 fg : Int
 ff : Int
 fj : Int
 ft : Bool
 fy : Int
 fA : Int
def Hf (x : HC) : List T := [.val (.int .u8 x.fg), .val (.int .u8 x.ff), .val (.int .u8 x.fj), .val (.bool x.ft), .val (.int .u16 x.fy), .val (.int .u16 x.fA)]
structure BF where
 fa : List Int
 fh : List Int
 fq : List Int
 fw : List HC
def MT (x : BF) : List T := [.sl (x.fa.map DV), .sl (x.fh.map DV), .sl (x.fq.map DV), .sl (x.fw.map Hf)]
structure Al where
 fg : Int
 ff : Int
 fj : Int
 ft : Bool
 fr : List (List Bool)
 fk : List (List Bool)
def AM (x : Al) : List T := [.val (.int .i64 x.fg), .val (.int .i64 x.ff), .val (.int .i64 x.fj), .val (.bool x.ft), .sl (x.fr.map (EX eB)), .sl (x.fk.map (EX eB))]
structure Aa where
 fa : List Int
 fh : List Int
 fq : List Int
 fc : List Al
structure Ac where
 fd : List Int
 fb : List Int
 fe : List Int
def E6 (x : Ac) : List T := [.sl (x.fd.map Ak), .sl (x.fb.map Ak), .sl (x.fe.map DV)]
structure An where
 fB : Int
 fC : Int
 fD : Int
def A0 (x : An) : List T := [.val (.int .i64 x.fB), .val (.int .i64 x.fC), .val (.int .i64 x.fD)]
structure Ad where
 fg : Int
 fi : Int
 fo : Int
def AG (x : Ad) : List T := [.val (.int .i64 x.fg), .val (.int .i64 x.fi), .val (.int .i64 x.fo)]
theorem OE : VI AG := ⟨by
 rintro ⟨a1, a2, a3⟩ ⟨b1, b2, b3⟩ h
 simp only [AG, List.cons.injEq, T.val.injEq, Value.int.injEq, and_true, true_and] at h
 obtain ⟨h1, h2, h3⟩ := h
 subst h1
 subst h2
 subst h3
 rfl⟩
structure AD where
 fv : Ac
 fE : Int
 fu : Ad
def Cj (x : AD) : List T := [.sl (x.fv.fd.map Ak), .sl (x.fv.fb.map Ak), .sl (x.fv.fe.map DV), .val (.int .i64 x.fE), .val (.int .i64 x.fu.fg), .val (.int .i64 x.fu.fi), .val (.int .i64 x.fu.fo)]
structure Az where
 fp : Ac
 ff : Int
 fu : Ad
 fb : List Int
def Bf (x : Az) : List T := [.sl (x.fp.fd.map Ak), .sl (x.fp.fb.map Ak), .sl (x.fp.fe.map DV), .val (.int .i64 x.ff), .val (.int .i64 x.fu.fg), .val (.int .i64 x.fu.fi), .val (.int .i64 x.fu.fo), .sl (x.fb.map Ak)]
theorem Sl : VI Bf := ⟨by
 rintro ⟨⟨a1, a2, a3⟩, a4, ⟨a5, a6, a7⟩, a8⟩ ⟨⟨b1, b2, b3⟩, b4, ⟨b5, b6, b7⟩, b8⟩ h
 simp only [Bf, List.cons.injEq, T.val.injEq, T.sl.injEq, Value.int.injEq, and_true, true_and] at h
 obtain ⟨h1, h2, h3, h4, h5, h6, h7, h8⟩ := h
 have h1 := LZ RD.inj _ _ h1
 subst h1
 have h2 := LZ RD.inj _ _ h2
 subst h2
 have h3 := LZ aS.inj _ _ h3
 subst h3
 subst h4
 subst h5
 subst h6
 subst h7
 have h8 := LZ RD.inj _ _ h8
 subst h8
 rfl⟩
end Go.Lift
