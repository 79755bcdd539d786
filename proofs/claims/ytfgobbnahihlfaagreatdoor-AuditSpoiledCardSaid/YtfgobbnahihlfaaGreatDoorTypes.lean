/- Lemmas for AuditSpoiledCardSaid, which YtfgobbnahihlfaaGreatDoorFinA10 proves. -/
import Derived.Test.YtfgobbnahihlfaaGreatDoorLift16
import Derived.ProofKit
import Derived.Shelf.SlSortCmp.NoneTotal
import Derived.MakeChecks
import Derived.Shelf.Strconv.Itoa3
import Derived.Shelf.Spec.TrailingZeros
import Derived.Shelf.SlLaysF
import Derived.Shelf.Strconv.Itoa4
import Derived.Laws.Runes
import Derived.Shelf.Strings.Builder1
import Derived.Deep.LoopGhost
import Derived.Deep.DeepFit
import Derived.Deep.Onto
import Derived.WalkKit
import Derived.Shelf.Spec.SlicesInsert
open Array renaming getElem?_append → zJ9, getElem?_eq_none → zD0, getElem?_eq_some_iff → zI8, length_toList → zE1, replicate → zH8, size_append → zC6, size_setIfInBounds → zJ2
open Bool renaming and_eq_true → zA1, and_eq_true_iff → zF7, false_eq_true → zH9, not_eq_true' → zF5, not_true → zA8, or_eq_true → zE3, true_and → zA9
open Int renaming eq_ofNat_of_zero_le → zA6, toNat_natCast → zB2
open List renaming all_cons → zD7, all_eq_true → zA2, any_cons → zH1, append_assoc → zJ1, cons_append → zG0, drop_eq_nil_of_le → zB1, eq_nil_iff_forall_not_mem → zG3, eq_nil_of_length_eq_zero → zE2, getElem?_append_left → zD3, getElem?_append_right → zC9, getElem?_drop → zD6, getElem?_eq_getElem → zB3, getElem?_map → zA5, getElem?_take_of_lt → zB8, getElem_idxOf → zI7, idxOf_lt_length_of_mem → zG8, length → zG1, length_append → zG2, length_cons → zD4, length_map → zB9, length_nil → zF3, length_take → zH6, map_congr_left → zG7, map_cons → zC4, map_nil → zJ0, map_toArray → zH5, mem_cons → zB6, mem_iff_getElem? → zB0, mem_map → zD8, nodup_cons → zE7, range → zC8, range' → zH3
open Nat renaming add_assoc → zF1, add_mul → zB4, add_sub_cancel_left → zC3, add_zero → zE8, ble → zF2, ble_eq_true_of_le → zG4, blt_eq → zF4, le_of_ble_eq_true → zB5, le_refl → zC5, le_trans → zH0, lt_irrefl → zF8, lt_or_ge → zC7, min → zD2, mul_le_mul_right → zA3, succ_mul → zC1, zero_add → zA4, zero_le → zB7
open Option renaming getD_some → zC2, map_some → zE5
namespace Go.Lift
open Go.RowKit
variable {P : Program} {X : Gt} {ops : Array Oper}
def HC (P : Program) : Nat → List Field → Option (List Nat)
 | _, [] => some []
 | k, f :: fs => if f.name == "_" || f.offset != k then none else match P.underlying f.type with
  | some (.int _) => (HC P (k + 1) fs).map (0 :: ·)
  | some .bool => (HC P (k + 1) fs).map (1 :: ·)
  | some .string => (HC P (k + 1) fs).map (2 :: ·)
  | _ => none
def To (P : Program) (t : TypeId) : Option (List Nat) :=
 match P.underlying t with
 | some (.struct fs) => if P.stoodInHeld t || P.eqGuardType P.depth t then none else HC P 0 fs.toList
 | _ => none
def En : List Nat → List Value → List Value → Option Bool
 | [], [], [] => some true
 | 0 :: ts, .int k a :: ar, .int k' b :: bs => if k = k' then (En ts ar bs).map (fun r => (a == b) && r) else none
 | 1 :: ts, .bool a :: ar, .bool b :: bs => (En ts ar bs).map (fun r => (a == b) && r)
 | 2 :: ts, .string a :: ar, .string b :: bs => (En ts ar bs).map (fun r => (a.toList == b.toList) && r)
 | _, _, _ => none
theorem RU {ts : List Nat} {ar bs : List Value} {r : Bool} (h : En (0 :: ts) ar bs = some r) : ∃ k a ar' b bs' r', ar = .int k a :: ar' ∧ bs = .int k b :: bs' ∧ En ts ar' bs' = some r' ∧ r = ((a == b) && r') := by
 unfold En at h
 split at h <;> try (exfalso; simp_all; done)
 rename_i ts' k a ar' k' b bs' e
 cases e
 split at h
 ·rename_i e; subst e
  cases hel : En ts ar' bs' with
  | none => rw [hel] at h; cases h
  | some r' =>
   rw [hel] at h
   exact ⟨k, a, ar', b, bs', r', rfl, rfl, hel, by simpa using h.symm⟩
 ·cases h
theorem R4 {ts : List Nat} {ar bs : List Value} {r : Bool} (h : En (1 :: ts) ar bs = some r) : ∃ a ar' b bs' r', ar = .bool a :: ar' ∧ bs = .bool b :: bs' ∧ En ts ar' bs' = some r' ∧ r = ((a == b) && r') := by
 unfold En at h
 split at h <;> try (exfalso; simp_all; done)
 rename_i ts' a ar' b bs' e
 cases e
 cases hel : En ts ar' bs' with
 | none => rw [hel] at h; cases h
 | some r' =>
  rw [hel] at h
  exact ⟨a, ar', b, bs', r', rfl, rfl, hel, by simpa using h.symm⟩
theorem Sj {ts : List Nat} {ar bs : List Value} {r : Bool} (h : En (2 :: ts) ar bs = some r) : ∃ a ar' b bs' r', ar = .string a :: ar' ∧ bs = .string b :: bs' ∧ En ts ar' bs' = some r' ∧ r = ((a.toList == b.toList) && r') := by
 unfold En at h
 split at h <;> try (exfalso; simp_all; done)
 rename_i ts' a ar' b bs' e
 cases e
 cases hel : En ts ar' bs' with
 | none => rw [hel] at h; cases h
 | some r' =>
  rw [hel] at h
  exact ⟨a, ar', b, bs', r', rfl, rfl, hel, by simpa using h.symm⟩
theorem M3 {t : TypeId} (h : Ek P t false = true) {cs : Array Value} {off : Nat} {v : Value} (hv : cs[off]? = some v) (w : World) : (part t cs off).run P w = .ok v w := by
 unfold part
 refine Af (GV h w) ?_
 simp only [zH9, if_false, hv]
 rfl
theorem Mb (d : Nat) (xs ys : Array Value) (w : World) : ∀ (fs : List Field) (ts : List Nat) (k : Nat) (ar bs : List Value) (r : Bool), HC P k fs = some ts → (∀ (j : Nat) (v : Value), ar[j]? = some v → xs[k + j]? = some v) → (∀ (j : Nat) (v : Value), bs[j]? = some v → ys[k + j]? = some v) → En ts ar bs = some r →
  (Op.eqFields (d + 1) xs ys fs).run P w = .ok r w
 | [], ts, k, ar, bs, r, ht, hx, hy, he => by
  cases ht
  cases ar <;> cases bs <;> simp [En] at he
  subst he; rfl
 | f :: fs, ts, k, ar, bs, r, ht, hx, hy, he => by
  simp only [HC] at ht
  split at ht
  ·cases ht
  ·rename_i hn
   simp only [zE3, not_or, beq_iff_eq, bne_iff_ne, ne_eq, Decidable.not_not] at hn
   obtain ⟨hn1, hn2⟩ := hn
   subst hn2
   have step : ∀ (ts' : List Nat) (a b : Value) (ar' bs' : List Value) (q r' : Bool), ar = a :: ar' → bs = b :: bs' → HC P (f.offset + 1) fs = some ts' → En ts' ar' bs' = some r' → Ek P f.type false = true → (Op.equalIn (d + 1) f.type a b).run P w = .ok q w →
     (Op.eqFields (d + 1) xs ys (f :: fs)).run P w = .ok (q && r') w := by
    intro ts' a b ar' bs' q r' ha hb htl hel hag heq
    subst ha; subst hb
    have h1 : xs[f.offset]? = some a := hx 0 a rfl
    have h2 : ys[f.offset]? = some b := hy 0 b rfl
    simp only [Op.eqFields, hn1, ne_eq, not_false_eq_true, if_true]
    refine Af (M3 hag h1 w) (Af (M3 hag h2 w) (Af heq ?_))
    cases q
    ·simp
    ·simp only [zA8, zH9, if_false, zA9]
     exact Mb d xs ys w fs ts' (f.offset + 1) ar' bs' r' htl (fun j v hj => by rw [show f.offset + 1 + j = f.offset + (j + 1) from by omega]; exact hx (j + 1) v hj) (fun j v hj => by rw [show f.offset + 1 + j = f.offset + (j + 1) from by omega]; exact hy (j + 1) v hj) hel
   split at ht
   ·rename_i kk hu
    cases htl : HC P (f.offset + 1) fs with
    | none => rw [htl] at ht; cases ht
    | some ts' =>
     rw [htl] at ht; cases ht
     obtain ⟨k1, a1, ar', b1, bs', r', e1, e2, hel, rfl⟩ := RU he
     subst e1; subst e2
     exact step ts' _ _ ar' bs' _ r' rfl rfl htl hel (by unfold Ek; rw [hu]; rfl) (run_equalIn_int w d f.type k1 kk a1 b1 hu)
   ·rename_i hu
    cases htl : HC P (f.offset + 1) fs with
    | none => rw [htl] at ht; cases ht
    | some ts' =>
     rw [htl] at ht; cases ht
     obtain ⟨a1, ar', b1, bs', r', e1, e2, hel, rfl⟩ := R4 he
     subst e1; subst e2
     exact step ts' _ _ ar' bs' _ r' rfl rfl htl hel (by unfold Ek; rw [hu]; rfl) (run_equalIn_bool' w d f.type a1 b1 hu)
   ·rename_i hu
    cases htl : HC P (f.offset + 1) fs with
    | none => rw [htl] at ht; cases ht
    | some ts' =>
     rw [htl] at ht; cases ht
     obtain ⟨a1, ar', b1, bs', r', e1, e2, hel, rfl⟩ := Sj he
     subst e1; subst e2
     exact step ts' _ _ ar' bs' _ r' rfl rfl htl hel (by unfold Ek; rw [hu]; rfl) (run_equalIn_string w d f.type a1 b1 hu)
   ·cases ht
theorem NQ {t : TypeId} {ts : List Nat} (h : To P t = some ts) {ar bs : List Value} {r : Bool} (hr : En ts ar bs = some r) (w : World) :
  (Op.equalIn 10000 t (.agg ar.toArray) (.agg bs.toArray)).run P w = .ok r w ∧ P.eqGuardType P.depth t = false := by
 unfold To at h
 split at h
 ·rename_i fs hu
  split at h
  ·cases h
  ·rename_i hn
   simp only [zE3, not_or, Bool.not_eq_true] at hn
   have hf : P.fieldsOf t = fs := by unfold Program.fieldsOf; rw [hu]
   refine ⟨?_, hn.2⟩
   rw [run_equalIn_struct w 9999 t _ _ (by rw [hf]; exact hu) hn.1, hf]
   exact Mb 9998 _ _ w fs.toList ts 0 ar bs r h (fun j v hj => by simpa using hj) (fun j v hj => by simpa using hj) hr
 ·cases h
abbrev aD (ar : List Value) : D := .e (.agg (ar.map fun v => .pure (.val v)))
theorem SE {w : World} {G : Gh} {v : Value} {ar : List Value} (h : FG P w G v (aD ar)) : v = .agg ar.toArray := by
 obtain ⟨vs, rfl, hs, h⟩ := h
 congr 1
 have hs' : vs.size = ar.length := by simpa using hs
 apply Array.ext
 ·simpa using hs'
 ·intro j h1 h2
  have hj : j < ar.length := by omega
  have : Ej P w G (Ap vs j) (.pure (.val ar[j])) := h j _ (by simp [hj])
  have h3 := CF (this : Cs w G.S _ (.val _))
  simpa [Ap, h1] using h3
section run
variable {dr : Bool} {Q : St → Prop} {r i : Nat} {st : St} {log : List (Nat × B5)} {o : Oper} {gs : List (Operand × D)}
theorem Un {xt yt : TypeId} {x y : Operand} {s : Nat} {ts : List Nat} {b : Bool} (ar bs : List Value) (hat : At st.env ops i X.n (.binOp .eql xt x y yt) s gs)
  (hx : opd st.env x = some (aD ar)) (hy : opd st.env y = some (aD bs)) (ht : To P xt = some ts) (he : En ts ar bs = some b)
  (next : A6 P X ops dr Q r (i + 1) (B5.upd ⟨gs ++ [(x, aD ar), (y, aD bs)], [], some s, some (bD b), [], []⟩ st) ((i, ⟨gs ++ [(x, aD ar), (y, aD bs)], [], some s, some (bD b), [], []⟩) :: log)) : A6 P X ops dr Q (r + 1) i st log := by
 obtain ⟨o, ho, hop, hd, hn, hg, hgp⟩ := hat.out
 refine A6.step next ⟨Aj.2 ⟨hgp, hx, hy, trivial⟩, trivial, trivial⟩ (LR.value ho hg rfl hd.symm (CV hd hn) ?_)
 intro G st a w hs hpre
 obtain ⟨hx, hy, _⟩ := (Aj.1 hpre.r).2
 have hX := SE (hs.opd hx)
 have hY := SE (hs.opd hy)
 obtain ⟨h1, h2⟩ := NQ ht he w
 refine ⟨.bool b, w, G, ?_, hs, ?_⟩
 ·simp only [execOp, hop, hX, hY]
  refine Af (a := .bool b) (w1 := w) (Af (run_eqGuard_agg w .eql xt x y _ _ h2) ?_) rfl
  rw [run_eql_struct, h1]; rfl
 ·rintro d ⟨⟩
  exact ⟨.val _ rfl, fun b hb => by cases hb⟩
theorem Nw {xt yt : TypeId} {x : Operand} {s e : Nat} {rows : List (List T)} (hat : At st.env ops i X.n (.binOp .eql xt x (.const (.slice none 0 0)) yt) s gs)
  (hx : opd st.env x = some (one (.sl rows))) (ht : sliceB P xt e = true)
  (next : A6 P X ops dr Q r (i + 1) (B5.upd ⟨gs ++ [(x, one (.sl rows))], [], some s, some (.e (.one (.nilq (rows = [])))), [], []⟩ st) ((i, ⟨gs ++ [(x, one (.sl rows))], [], some s, some (.e (.one (.nilq (rows = [])))), [], []⟩) :: log)) : A6 P X ops dr Q (r + 1) i st log := by
 obtain ⟨o, ho, hop, hd, hn, hg, hgp⟩ := hat.out
 refine A6.step next ⟨Aj.2 ⟨hgp, hx, trivial⟩, trivial, trivial⟩ (LR.value ho hg rfl hd.symm (CV hd hn) ?_)
 intro G st a w hs hpre
 obtain ⟨hx, _⟩ := (Aj.1 hpre.r).2
 have hX : Cs w G.S (a.eval x) (.sl rows) := hs.opd hx
 obtain ⟨av, l, c, hv, hq⟩ : ∃ av l c, a.eval x = .slice av l c ∧ (av.isNone = true → rows = []) := by
  generalize a.eval x = v at hX
  cases hX with
  | nil av cap => exact ⟨av, 0, cap, rfl, fun _ => rfl⟩
  | sl β off cap e arr el fz rows h1 h2 h3 h4 h5 h6 => exact ⟨_, _, _, rfl, fun h => by cases h⟩
 have hu : P.underlying xt = some (.slice e) := by
  unfold sliceB at ht
  split at ht
  ·rename_i e' he; rw [he]; simp at ht; rw [ht]
  ·cases ht
 refine ⟨.bool av.isNone, w, G, ?_, hs, ?_⟩
 ·simp only [execOp, hop, hv]
  refine Af (a := .bool av.isNone) (w1 := w) (Af (a := ()) (w1 := w) (by simp [eqGuard]) ?_) rfl
  have h1 : (Op.equalIn (9999 + 1) xt (.slice av l c) (.slice none 0 0)).run P w = .ok av.isNone w := by
   generalize 9999 = dd
   cases av <;> (unfold Op.equalIn; exact Af (AB hu w) rfl)
  simp only [binOp, Act.eval]
  refine Af (a := av.isNone) (w1 := w) ?_ rfl
  exact h1
 ·rintro d ⟨⟩
  exact ⟨⟨_, rfl, hq⟩, fun b hb => by cases hb⟩
end run
theorem NB {c : Operand} {x y : Code} {Q : Exit → St → Prop} {st : St} {p : Prop} (hc : opd st.env c = some (.e (.one (.nilq p)))) (ht : p → W P X x Q st) (hf : W P X y Q st) : W P X (.cond c x y) Q st := by
 intro a w hs
 obtain ⟨b, hcv, hp⟩ : ∃ b, a.eval c = .bool b ∧ (b = true → p) := by
  obtain ⟨G, hs⟩ := hs
  exact hs.opd hc
 cases b with
 | true => exact wp_cond_true hcv (ht (hp rfl) a w hs)
 | false => exact wp_cond_false hcv (hf a w hs)
end Go.Lift
namespace Go.Lift
open List renaming mem_of_getElem? → lM
open Go.RowKit
variable {P : Program} {X : Gt} {ops : Array Oper}
def OV : Bool × List T → D
 | (true, ts) => .e (.agg (ts.map .pure))
 | (false, ts) => .e (.one (.pure (ts.headD .nil0)))
def TZ : Bool × List T → Bool
 | (true, _) => true
 | (false, ts) => match ts with | [_] => true | _ => false
theorem UF {w : World} {S : Nat → Prop} {G : Gh} {v : Value} {x : Bool × List T} (h : FG P w G v (OV x)) (hS : ∀ β, G.S β → S β) (hx : TZ x = true) : Vg w S v x := by
 obtain ⟨b, ts⟩ := x
 cases b with
 | false =>
  match ts, hx with
  | [t], _ => exact ⟨t, rfl, Cs.mono (show Cs w G.S v t from h) (fun _ _ => rfl) hS⟩
 | true =>
  obtain ⟨vs, e, hs, h⟩ := h
  refine ⟨vs, e, by simpa using hs, fun j t hj => ?_⟩
  have : Ej P w G (Ap vs j) (.pure t) := h j (.pure t) (by simp [hj])
  exact Cs.mono this (fun _ _ => rfl) hS
theorem R5 {w : World} {S : Nat → Prop} {v : Value} {x : Bool × List T} (h : Vg w S v x) : FG P w (G0 S) v (OV x) := by
 obtain ⟨b, ts⟩ := x
 cases b with
 | false =>
  obtain ⟨t, rfl, h⟩ := h
  exact h
 | true =>
  obtain ⟨vs, e, hs, h⟩ := h
  refine ⟨vs, e, by simpa using hs, fun j c hj => ?_⟩
  rw [zA5] at hj
  cases hx : ts[j]? with
  | none => rw [hx] at hj; cases hj
  | some t => rw [hx] at hj; cases hj; exact h j t hx
noncomputable def IS {α ρ : Type} (ea : α → List (Bool × List T)) (er : ρ → T) (q : α → Option ρ) : List (Bool × List T) → Option T := fun ar =>
 open Classical in if h : ∃ x r, ea x = ar ∧ q x = some r then some (er (Classical.choose (Classical.choose_spec h))) else none
theorem I4 {α ρ : Type} {ea : α → List (Bool × List T)} {er : ρ → T} {q : α → Option ρ} {ar : List (Bool × List T)} {t : T} (h : IS ea er q ar = some t) : ∃ x r, ar = ea x ∧ q x = some r ∧ t = er r := by
 unfold IS at h
 split at h
 ·rename_i hx
  cases h
  have := Classical.choose_spec (Classical.choose_spec hx)
  exact ⟨_, _, this.1.symm, this.2, rfl⟩
 ·cases h
theorem Lj {α ρ : Type} {ea : α → List (Bool × List T)} {er : ρ → T} {q : α → Option ρ} (inj : ∀ x y, ea x = ea y → x = y) {x : α} {r : ρ} (h : q x = some r) : IS ea er q (ea x) = some (er r) := by
 have hx : ∃ y s, ea y = ea x ∧ q y = some s := ⟨x, r, rfl, h⟩
 unfold IS
 rw [dif_pos hx]
 have h1 := Classical.choose_spec (Classical.choose_spec hx)
 have h2 := inj _ _ h1.1
 have h3 : q (Classical.choose hx) = some r := by rw [h2]; exact h
 exact congrArg (fun z => some (er z)) (Option.some.inj (h3.symm.trans h1.2)).symm
structure Vk {α β : Type} (f : α → β) : Prop where
 inj : ∀ x y, f x = f y → x = y
def MX {α : Type} (b : Bool) (e : α → List T) (x : α) : List (Bool × List T) := [(b, e x)]
theorem Lg {α : Type} (b : Bool) (e : α → List T) (h : Vk e) : ∀ x y, MX b e x = MX b e y → x = y := by
 intro x y hxy
 simp only [MX, List.cons.injEq, Prod.mk.injEq, true_and, and_true] at hxy
 exact h.inj _ _ hxy
theorem Qc {α β : Type} {f : α → β} (h : ∀ x y, f x = f y → x = y) : ∀ (xs ys : List α), xs.map f = ys.map f → xs = ys
 | [], [], _ => rfl
 | [], _ :: _, e => by cases e
 | _ :: _, [], e => by cases e
 | x :: xs, y :: ys, e => by
  simp only [zC4, List.cons.injEq] at e
  rw [h _ _ e.1, Qc h _ _ e.2]
theorem NN {f : FuncId} {g : List (Bool × List T) → Option T} (hf : Az P f = true) (hclo : ∀ ar t, g ar = some t → Ar P f (ar.map OV) [] (one t)) {w : World} {S : Nat → Prop} {v : Value} (h : FG P w (G0 S) v (.e (.one (.fnc f)))) : FG P w (G0 S) v (.e (.one (.clo g))) := by
 refine ⟨f, #[], h, ?_, ?_⟩
 ·unfold Az at hf
  split at hf
  ·rename_i fn h0
   simp only [zA1, zF5] at hf
   exact ⟨fn, h0, hf.2, hf.1⟩
  ·cases hf
 ·intro w' S' _ _ hlt hgk vs ar r0 hvs has hgr
  refine (hclo ar r0 hgr w' S' (vs ++ #[]) hlt hgk (by simp [hvs]) ?_).mono ?_
  ·intro j d hj
   rw [zA5] at hj
   cases hx0 : ar[j]? with
   | none => rw [hx0] at hj; cases hj
   | some y =>
    rw [hx0] at hj; cases hj
    rw [Array.append_empty]
    exact R5 (has j y hx0)
  ·rintro e w'' ⟨v, G', rfl, hbel, h1, h2, h3, _⟩
   exact ⟨v, G'.S, rfl, hbel, h1, h2, h3⟩
def Wm (P : Program) : List D → List D → Prop
 | [], [] => True
 | a :: ar, b :: bs => (∀ (w : World) (S : Nat → Prop) (v : Value), FG P w (G0 S) v a → FG P w (G0 S) v b) ∧ Wm P ar bs
 | _, _ => False
theorem Wm.get : ∀ {ar bs : List D}, Wm P ar bs → ar.length = bs.length ∧ ∀ (j : Nat) (b : D), bs[j]? = some b → ∃ a, ar[j]? = some a ∧ ∀ (w : World) (S : Nat → Prop) (v : Value), FG P w (G0 S) v a → FG P w (G0 S) v b
 | [], [], _ => ⟨rfl, fun j b h => by simp at h⟩
 | a :: ar, b :: bs, h => by
  obtain ⟨h1, h2⟩ := Wm.get h.2
  refine ⟨by simp [h1], fun j c hj => ?_⟩
  cases j with
  | zero => simp at hj; subst hj; exact ⟨a, rfl, h.1⟩
  | succ j => obtain ⟨a', g1, g2⟩ := h2 j c (by simpa using hj); exact ⟨a', by simpa using g1, g2⟩
theorem Ar.weak {f : FuncId} {ds ds' : List D} {rv : List (Nat × List (List T))} {res : D} (h : Ar P f ds rv res) (hp : Wm P ds' ds) : Ar P f ds' rv res := by
 intro w S vs hS hgk hlen hargs
 obtain ⟨h1, h2⟩ := hp.get
 refine h w S vs hS hgk (by rw [hlen, h1]) fun j d hj => ?_
 obtain ⟨a, g1, g2⟩ := h2 j d hj
 exact g2 w S _ (hargs j a g1)
section run
variable {dr : Bool} {Q : St → Prop} {r i : Nat} {st : St} {log : List (Nat × B5)} {o : Oper} {gs : List (Operand × D)}
theorem PX {f : FuncId} (h : Az P f = true) : ∃ fn, P.funcs[f]? = some fn ∧ fn.body.isSome = true ∧ (fn.name == "runtime.NumGoroutine") = false := by
 unfold Az at h
 split at h
 ·rename_i fn hf
  simp only [zA1, zF5] at h
  exact ⟨fn, hf, h.2, h.1⟩
 ·cases h
theorem PL {f : FuncId} {s : Nat} {xs : List Operand} {capD : List D} (g : List (Bool × List T) → Option T) (hat : At st.env ops i X.n (.makeFunc (.func f) #[] xs.toArray) s gs)
  (hf : Az P f = true) (hl : xs.length = capD.length) (hx : D1 st.env (FN xs capD)) (hpub : capD.all OI = true)
  (hclo : ∀ ar t, g ar = some t → Ar P f (ar.map OV ++ capD) [] (one t))
  (next : A6 P X ops dr Q r (i + 1) (B5.upd ⟨gs ++ FN xs capD, [], some s, some (.e (.one (.clo g))), [], []⟩ st) ((i, ⟨gs ++ FN xs capD, [], some s, some (.e (.one (.clo g))), [], []⟩) :: log)) : A6 P X ops dr Q (r + 1) i st log := by
 obtain ⟨o, ho, hop, hd, hn, hg, hgp⟩ := hat.out
 refine A6.step next ⟨Aj.2 ⟨hgp, hx⟩, trivial, trivial⟩ (LR.value ho hg rfl hd.symm (CV hd hn) ?_)
 intro G st a w hs hpre
 have hx := (Aj.1 hpre.r).2
 refine ⟨.func (.func f) #[] (xs.toArray.map a.eval), w, G, ?_, hs, ?_⟩
 ·simp only [execOp, hop]
  exact Af (a := .func (.func f) #[] (xs.toArray.map a.eval)) (w1 := w) (by simp [Instr.makeFunc]) rfl
 ·rintro d ⟨⟩
  refine ⟨⟨f, _, rfl, PX hf, ?_⟩, fun b hb => by cases hb⟩
  intro w' S' hS' hw' hlt hgk vs ar r0 hvs has hgr
  refine (hclo ar r0 hgr w' S' (vs ++ xs.toArray.map a.eval) hlt hgk (by simp [hvs, hl]) ?_).mono ?_
  ·intro j d hj
   by_cases hja : j < ar.length
   ·rw [zD3 (by simpa using hja), zA5] at hj
    have hx0 : ar[j]? = some ar[j] := by simp [hja]
    rw [hx0] at hj; cases hj
    rw [AU (by omega)]
    exact R5 (has j _ hx0)
   ·rw [zC9 (by simp; omega)] at hj
    simp only [zB9] at hj
    have hlt' := AA hj
    have hxj : xs[j - ar.length]? = some (xs[j - ar.length]'(by omega)) := by simp [show j - ar.length < xs.length from by omega]
    have hop' := GZ hl hx _ _ d hxj hj
    have hcell : Ap (vs ++ xs.toArray.map a.eval) j = a.eval (xs[j - ar.length]'(by omega)) := by
     unfold Ap
     rw [Array.getElem?_append_right (by omega), hvs]
     simp [show j - ar.length < xs.length from by omega]
    rw [hcell]
    have hcl : d.names = [] := by
     have := zA2.1 hpub d (lM hj)
     simpa [OI] using this
    exact ((hs.opd hop').mono (p := fun _ => False) (G' := G0 S') ⟨hS', fun _ h => h.elim, fun _ h => h.elim, fun _ h => h.elim⟩ hw' (fun b hb => by rw [hcl] at hb; cases hb))
  ·rintro e w'' ⟨v, G', rfl, hbel, h1, h2, h3, _⟩
   exact ⟨v, G'.S, rfl, hbel, h1, h2, h3⟩
theorem Lm {x : Operand} {g : List (Bool × List T) → Option T} {s : Nat} {xs : List Operand} {ds0 : List D} {ar : List (Bool × List T)} {r0 : T} {ts : Array TypeId} (hat : At st.env ops i X.n (.call ⟨.value x, xs.toArray, ts⟩) s gs)
  (hgx : opd st.env x = some (.e (.one (.clo g)))) (hl : xs.length = ds0.length) (hx : D1 st.env (FN xs ds0)) (hds : ds0.map D.nrm = ar.map OV) (_hpub : (ar.map OV).all OI = true) (hok : ar.all TZ = true) (hr : g ar = some r0)
  (next : A6 P X ops dr Q r (i + 1) (B5.upd ⟨gs ++ ((x, .e (.one (.clo g))) :: FN xs ds0), [], some s, some (one r0), [], []⟩ st) ((i, ⟨gs ++ ((x, .e (.one (.clo g))) :: FN xs ds0), [], some s, some (one r0), [], []⟩) :: log)) : A6 P X ops dr Q (r + 1) i st log := by
 obtain ⟨o, ho, hop, hd, hn, hg, hgp⟩ := hat.out
 refine A6.step next ⟨Aj.2 ⟨hgp, hgx, hx⟩, trivial, trivial⟩ ?_
 intro st a w K Q' hs hpre hK
 obtain ⟨G, hs⟩ := hs
 obtain ⟨hgx, hx⟩ := (Aj.1 hpre.r).2
 have hw := hs.wanted hg (Aj.1 hpre.r).1
 unfold wpOp
 rw [ho]
 simp only [hw, if_true]
 refine .inl ?_
 unfold Oper.wp
 obtain ⟨f, caps, hv, ⟨fn, hf1, hf2, hf3⟩, hcall⟩ : L4 P w G.S (a.eval x) g := hs.opd hgx
 have hgood : Az P f = true := by unfold Az; rw [hf1]; simp [hf2]; simpa using hf3
 have hrun : (execOp a.eval o).run P w = .ok (.enter f (xs.toArray.map a.eval ++ caps)) w := by
  simp only [execOp, hop]
  simp only [resolve, hv, Deferred.ofValue]
  refine Af (a := { target := .fn (.func f) caps, args := #[] ++ xs.toArray.map a.eval }) (w1 := w) rfl ?_
  simp only [invoke]
  rw [Id hgood]; simp
 rw [hrun]
 show Calls P f (xs.toArray.map a.eval ++ caps) w _
 have hlen : xs.length = ar.length := by
  have := congrArg zG1 hds
  simp at this; omega
 refine (hcall w G.S (fun _ h => h) (fun _ _ => rfl) hs.S_lt hs.gok (xs.toArray.map a.eval) ar r0 (by simp [hlen]) ?_ hr).mono ?_
 ·intro j y hj
  have hlt := AA hj
  have hd0 : ds0[j]? = some (ds0[j]'(by omega)) := by simp [show j < ds0.length from by omega]
  have hnrm : (ds0[j]'(by omega)).nrm = OV y := by
   have h1 : (ds0.map D.nrm)[j]? = (ar.map OV)[j]? := by rw [hds]
   rw [zA5, zA5, hd0, hj] at h1
   simpa using h1
  have hxj : xs[j]? = some (xs[j]'(by omega)) := by simp [show j < xs.length from by omega]
  have hop' := GZ hl hx j _ _ hxj hd0
  have hcell : Ap (xs.toArray.map a.eval) j = a.eval (xs[j]'(by omega)) := by simp [Ap, show j < xs.length from by omega]
  rw [hcell]
  have hrd := (hs.opd hop').nrm
  rw [hnrm] at hrd
  exact UF hrd (fun _ h => h) (zA2.1 hok y (lM hj))
 ·rintro e w' ⟨v, S'', rfl, hbel, hS1, hS2, hres⟩
  show K (a.put o.dst v) w'
  rw [hd]
  let G2 : Gh := { G with S := S'' }
  have hsz := hbel.size
  have hle := hs.below.size
  have key : Cu P X G2 ⟨st.env, Be st.bx []⟩ a w' := by
   refine hs.frame (fun c hc => hc) ⟨hS1, fun _ _ => rfl, fun _ _ => rfl, fun _ _ => rfl⟩ (fun β hβ => hbel.block β (hs.S_lt β hβ)) ?_ ?_ ?_ ?_ ?_ (hs.below.trans (.of (hbel.mono hle))) (fun _ _ => ⟨rfl, rfl, rfl⟩)
   ·intro c k hc
    exact .inl ⟨hc, fun β hr hβ => hbel.block β (hs.at_ok c k β hc hr hβ).2.1⟩
   ·intro c k β hc hr hβ
    have := hs.at_ok c k β hc hr hβ
    refine ⟨this.1, by omega, fun h => ?_⟩
    rcases hS2 β h with h | h
    ·exact this.2.2 h
    ·omega
   ·intro c c' k k' β hc hc' hr hr' hβ hβ'
    exact hs.at_inj c c' k k' β hc hc' hr hr' hβ hβ'
   ·intro β h
    rcases hS2 β h with h | h
    ·have := hs.S_lt β h; omega
    ·exact h.2
   ·intro β h
    rcases hS2 β h with h | h
    ·exact hs.S_src β h
    ·exact .inr (by omega)
  refine hK _ _ ⟨G2, key.put (some s) (some (one r0)) v (by intro t e; cases e; exact hn) ?_⟩
  rintro d ⟨⟩
  exact ⟨hres, fun b hb => by cases hb⟩
end run
end Go.Lift
namespace Go.Lift
open Go.RowKit Go.ChangeShapes Go.WideShapes
section
variable {P : Program}
def J8 (P : Program) : Nat → List Field → Nat → Bool
 | o, [], n => o == n
 | o, f :: fs, n => f.offset == o && J8 P (o + P.cellsOf f.type) fs n
def HF (P : Program) : Nat → TypeId → Bool
 | 0, _ => false
 | d + 1, t => match P.underlying t with
  | some (.int _) => true
  | some .bool => true
  | some .string => true
  | some (.slice e) => decide (0 < P.cellsOf e) && HF P d e
  | some (.struct fs) => J8 P 0 fs.toList (P.cellsOf t) && fs.toList.all fun f => HF P d f.type
  | _ => false
def SX (F : TypeId → List T → Prop) : List TypeId → List T → Prop
 | [], ts => ts = []
 | t :: tys, ts => ∃ a b, ts = a ++ b ∧ F t a ∧ SX F tys b
def Ir (P : Program) : Nat → TypeId → List T → Prop
 | 0, _, _ => False
 | d + 1, t, ts => match P.underlying t with
  | some (.int k) => ∃ n, ts = [.val (.int k n)] ∧ (Lit.int k n).wf = true
  | some .bool => ∃ b, ts = [.val (.bool b)]
  | some .string => ∃ s, ts = [.val (.string s)]
  | some (.slice e) => ∃ rows, ts = [.sl rows] ∧ ∀ row, row ∈ rows → Ir P d e row
  | some (.struct fs) => SX (Ir P d) (fs.toList.map (·.type)) ts
  | _ => False
def GI (w : World) (S : Nat → Prop) : List Value → List T → Prop
 | [], [] => True
 | v :: vs, t :: ts => Cs w S v t ∧ GI w S vs ts
 | _, _ => False
theorem GI.append {w : World} {S : Nat → Prop} : ∀ {a b : List Value} {x y : List T}, GI w S a x → GI w S b y → GI w S (a ++ b) (x ++ y)
 | [], _, [], _, _, h => h
 | _ :: _, _, _ :: _, _, h1, h2 => ⟨h1.1, GI.append h1.2 h2⟩
theorem GI.len {w : World} {S : Nat → Prop} : ∀ {a : List Value} {x : List T}, GI w S a x → a.length = x.length
 | [], [], _ => rfl
 | _ :: _, _ :: _, h => by simp [h.2.len]
theorem GI.get {w : World} {S : Nat → Prop} : ∀ {a : List Value} {x : List T}, GI w S a x → ∀ (j : Nat) (t : T), x[j]? = some t → ∃ v, a[j]? = some v ∧ Cs w S v t
 | [], [], _, j, t, hj => by simp at hj
 | v :: _, _ :: _, h, 0, t, hj => by simp at hj; subst hj; exact ⟨v, rfl, h.1⟩
 | _ :: _, _ :: _, h, j + 1, t, hj => by
  obtain ⟨v, h1, h2⟩ := h.2.get j t (by simpa using hj)
  exact ⟨v, by simpa using h1, h2⟩
theorem K3 {α : Type} {p : Nat → α → Prop} : ∀ (n : Nat), (∀ i, i < n → ∃ x, p i x) → ∃ l : List α, l.length = n ∧ ∀ i x, l[i]? = some x → p i x
 | 0, _ => ⟨[], rfl, fun i x h => by simp at h⟩
 | n + 1, h => by
  obtain ⟨l, h1, h2⟩ := K3 n (fun i hi => h i (by omega))
  obtain ⟨x, hx⟩ := h n (by omega)
  refine ⟨l ++ [x], by simp [h1], fun i y hi => ?_⟩
  by_cases hlt : i < l.length
  ·rw [zD3 hlt] at hi; exact h2 i y hi
  ·rw [zC9 (by omega)] at hi
   have : i - l.length = 0 := by
    have := AA hi
    simp at this; omega
   rw [this] at hi
   simp at hi; subst hi
   have : i = n := by omega
   subst this; exact hx
theorem II {α : Type} {f : Nat → Option α} : ∀ {n : Nat} {l : List α}, (zC8 n).mapM f = some l → l.length = n ∧ ∀ i, i < n → f i = l[i]? := by
 intro n l h
 have h1 := mapM_some_length h
 refine ⟨by simpa using h1, fun i hi => ?_⟩
 exact mapM_some_get h i i (by simp [hi])
theorem OR {w : World} {b o : Nat} {v : Value} (h : w.cell? ⟨b, o, none⟩ = some v) : ∃ arr el fz, w.heap[b]? = some (.cells arr el fz) ∧ arr[o]? = some v := by
 unfold World.cell? at h
 split at h
 ·rename_i c el fz hc
  exact ⟨c, el, fz, hc, by simpa using h⟩
 ·cases h
theorem SJ {w : World} {b : Nat} {o : Obj} (h : w.heap[b]? = some o) : b < w.heap.size := by
 rcases zC7 b w.heap.size with h1 | h1
 ·exact h1
 ·rw [zD0 h1] at h; cases h
abbrev P0 (w : World) : Nat → Prop := fun β => β < w.heap.size
theorem M1 {H : Type} {enc : TypeId × Value → H} {w : World} {sp : Nat → Bool} {held : Bool} {n d : Nat} {cs : List Value}
  (ih : ∀ (t : TypeId) (cs : List Value) (x : DataW H × List MemPlace), HF P d t = true → DataW.trod enc P w 0 sp held n t cs = some x → ∃ ts, GI w (P0 w) cs ts ∧ Ir P d t ts) :
  ∀ (fs : List Field) (o : Nat), J8 P o fs cs.length = true → (fs.all fun f => HF P d f.type) = true →
   (∀ f, f ∈ fs → ∃ x, DataW.trod enc P w 0 sp held n f.type ((cs.drop f.offset).take (P.cellsOf f.type)) = some x) →
   ∃ ts, GI w (P0 w) (cs.drop o) ts ∧ SX (Ir P d) (fs.map (·.type)) ts
 | [], o, hc, _, _ => by
  simp only [J8, beq_iff_eq] at hc
  refine ⟨[], ?_, rfl⟩
  rw [zB1 (by omega)]; trivial
 | f :: fs, o, hc, hp, hx => by
  simp only [J8, zA1, beq_iff_eq] at hc
  simp only [zD7, zA1] at hp
  obtain ⟨x, hx0⟩ := hx f (by simp)
  rw [hc.1] at hx0
  obtain ⟨ts, h1, h2⟩ := ih _ _ _ hp.1 hx0
  obtain ⟨us, h3, h4⟩ := M1 ih fs _ hc.2 hp.2 (fun g hg => hx g (by simp [hg]))
  refine ⟨ts ++ us, ?_, ⟨ts, us, rfl, h2, h4⟩⟩
  have : cs.drop o = (cs.drop o).take (P.cellsOf f.type) ++ cs.drop (o + P.cellsOf f.type) := by
   rw [← List.drop_drop, List.take_append_drop]
  rw [this]
  exact h1.append h3
theorem Ny {H : Type} {enc : TypeId × Value → H} {w : World} {sp : Nat → Bool} {held : Bool} : ∀ (d fuel : Nat) (t : TypeId) (cs : List Value) (x : DataW H × List MemPlace), HF P d t = true → DataW.trod enc P w 0 sp held fuel t cs = some x → ∃ ts, GI w (P0 w) cs ts ∧ Ir P d t ts
 | 0, _, _, _, _, hp, _ => by cases hp
 | d + 1, fuel, t, cs, x, hp, hx => by
  unfold HF at hp
  unfold Ir
  split at hp
  ·rename_i k hu
   obtain ⟨n, rfl, _, hw⟩ := DataW.trod_int hu hx
   exact ⟨[.val (.int k n)], ⟨.val _ rfl, trivial⟩, n, rfl, hw⟩
  ·rename_i hu
   obtain ⟨b, rfl, _⟩ := DataW.trod_bool hu hx
   exact ⟨[.val (.bool b)], ⟨.val _ rfl, trivial⟩, b, rfl⟩
  ·rename_i hu
   obtain ⟨b, rfl, _⟩ := DataW.trod_string hu hx
   exact ⟨[.val (.string b)], ⟨.val _ rfl, trivial⟩, b, rfl⟩
  ·rename_i e hu
   simp only [zA1, decide_eq_true_eq] at hp
   rcases DataW.trod_slice hu hx with ⟨rfl, _⟩ | ⟨a, len, cap, elems, rest, n, rfl, rfl, _, _, hl, _, hlen, hel, _, _⟩
   ·exact ⟨[.sl []], ⟨.nil none 0, trivial⟩, [], rfl, fun row h => by cases h⟩
   ·have hrow : ∀ i, i < len → ∃ row, ∃ csi, w.cells? 0 (a.add (i * P.cellsOf e)) (P.cellsOf e) = some csi ∧ GI w (P0 w) csi row ∧ Ir P d e row := by
     intro i hi
     have h1 := hel i hi
     have h2 : elems[i]? = some (elems[i]'(by omega)) := by simp [show i < elems.length from by omega]
     rw [h2] at h1
     obtain ⟨csi, h3, h4⟩ := Option.bind_eq_some_iff.1 h1
     obtain ⟨row, h5, h6⟩ := Ny d n e csi _ hp.2 h4
     exact ⟨row, csi, h3, h5, h6⟩
    obtain ⟨rows, hrl, hrows⟩ := K3 len hrow
    subst hrl
    refine ⟨[.sl rows], ⟨?_, trivial⟩, rows, rfl, fun row hm => ?_⟩
    ·cases hr0 : rows with
     | nil => exact .nil _ _
     | cons r0 rs0 =>
      rw [← hr0]
      have hpos : 0 < rows.length := by rw [hr0]; simp
      -- each cell
      have hcell : ∀ (i : Nat) (row : List T) (j : Nat) (u : T), rows[i]? = some row → row[j]? = some u → j < P.cellsOf e ∧ ∃ v, w.cell? ((a.add (i * P.cellsOf e)).add j) = some v ∧ Cs w (P0 w) v u := by
       intro i row j u hi hj
       obtain ⟨csi, h1, h2, _⟩ := hrows i row hi
       obtain ⟨v, h3, h4⟩ := h2.get j u hj
       unfold World.cells? at h1
       rw [if_pos (zB7 _)] at h1
       obtain ⟨h5, h6⟩ := II h1
       have hjl : j < P.cellsOf e := by have := AA h3; omega
       exact ⟨hjl, v, by rw [h6 j hjl, h3], h4⟩
      have hrlen : ∀ (i : Nat) (row : List T), rows[i]? = some row → row.length = P.cellsOf e := by
       intro i row hi
       obtain ⟨csi, h1, h2, _⟩ := hrows i row hi
       unfold World.cells? at h1
       rw [if_pos (zB7 _)] at h1
       obtain ⟨h5, _⟩ := II h1
       rw [← h2.len, h5]
      have hget : ∀ i (hi : i < rows.length), rows[i]? = some (rows[i]'hi) := fun i hi => by simp [hi]
      have hr00 := hget 0 hpos
      have hl0 := hrlen 0 _ hr00
      obtain ⟨_, v0, hv0, _⟩ := hcell 0 _ 0 ((rows[0]'hpos)[0]'(by omega)) hr00 (by simp)
      have hadd0 : (a.add (0 * P.cellsOf e)).add 0 = a := by simp [Addr.add]
      rw [hadd0] at hv0
      have hspot := World.cell?_spot hv0
      obtain ⟨β, off, spot⟩ := a
      simp only at hspot
      subst hspot
      obtain ⟨arr, el, fz, hb, _⟩ := OR hv0
      have hadd : ∀ i j : Nat, ((⟨β, off, none⟩ : Addr).add (i * P.cellsOf e)).add j = ⟨β, off + i * P.cellsOf e + j, none⟩ := by
       intro i j
       unfold Addr.add
       split
       ·rename_i h1
        split
        ·rename_i h2; rw [h2]; simp
        ·rename_i h2; simp only [Addr.mk.injEq, true_and, and_true]; omega
       ·split <;> simp_all <;> omega
      have hat : ∀ (i : Nat) (row : List T) (j : Nat) (u : T), rows[i]? = some row → row[j]? = some u → off + i * P.cellsOf e + j < arr.size ∧ Cs w (P0 w) (Ap arr (off + i * P.cellsOf e + j)) u := by
       intro i row j u hi hj
       obtain ⟨_, v, h1, h2⟩ := hcell i row j u hi hj
       rw [hadd] at h1
       obtain ⟨arr', el', fz', h3, h4⟩ := OR h1
       rw [hb] at h3; cases h3
       have hlt : off + i * P.cellsOf e + j < arr.size := by
        rcases zC7 (off + i * P.cellsOf e + j) arr.size with h | h
        ·exact h
        ·rw [zD0 h] at h4; cases h4
       refine ⟨hlt, ?_⟩
       have : Ap arr (off + i * P.cellsOf e + j) = v := by unfold Ap; rw [h4]; rfl
       rw [this]; exact h2
      refine .sl β off cap (P.cellsOf e) arr el fz rows (SJ hb) hb hl ?_ hrlen (fun i row j u hi hj => (hat i row j u hi hj).2)
      have hil := hget (rows.length - 1) (by omega)
      have hll := hrlen _ _ hil
      have h7 := (hat (rows.length - 1) _ (P.cellsOf e - 1) ((rows[rows.length - 1]'(by omega))[P.cellsOf e - 1]'(by omega)) hil (by simp)).1
      have h8 : rows.length * P.cellsOf e = (rows.length - 1) * P.cellsOf e + P.cellsOf e := by
       rw [← zC1]; congr 1; omega
      omega
    ·obtain ⟨i, hi⟩ := zB0.1 hm
     obtain ⟨_, _, _, h⟩ := hrows i row hi
     exact h
  ·rename_i fs hu
   simp only [zA1] at hp
   obtain ⟨xs, n, rfl, _, hcl, hxl, hf⟩ := DataW.trod_struct hu hx
   have := M1 (enc := enc) (sp := sp) (held := held) (cs := cs) (fun t cs x h1 h2 => Ny d n t cs x h1 h2) fs.toList 0 (by rw [hcl]; exact hp.1) hp.2 (fun f hm => by
    obtain ⟨i, hi⟩ := zB0.1 hm
    have hi' : fs[i]? = some f := by simpa using hi
    have h1 := hf i f hi'
    have hlt : i < fs.size := by
     have := AA hi
     simpa using this
    exact ⟨xs[i]'(by omega), by rw [h1]; simp [show i < xs.length from by omega]⟩)
   simpa using this
  ·cases hp
end
end Go.Lift
namespace Go.Lift
open Go.RowKit Go.ChangeShapes Go.WideShapes
section
variable {P : Program}
def Tu (P : Program) (t : TypeId) (us : List T) : D := match P.underlying t with
 | some (.struct _) => .e (.agg (us.map .pure))
 | _ => .e (.one (.pure (us.headD .nil0)))
def Ic (P : Program) (d : Nat) : List TypeId → List D → Prop
 | [], [] => True
 | t :: ts, x :: xs => (∃ us, Ir P d t us ∧ x = Tu P t us) ∧ Ic P d ts xs
 | _, _ => False
theorem UE {H : Type} {enc : TypeId × Value → H} {w : World} {d base : Nat} {t : TypeId} {v : Value} {x : DataW H} {ps : List MemPlace} (hp : HF P d t = true) (hval : Value.okWide P w .any base t v) (h : DataW.Trod enc P w 0 (fun _ => true) true t v x ps) :
  ∃ us, Ir P d t us ∧ FG P w (G0 (P0 w)) v (Tu P t us) := by
 obtain ⟨fuel, hf⟩ := h
 obtain ⟨us, h1, h2⟩ := Ny d fuel t _ _ hp hf
 refine ⟨us, h2, ?_⟩
 have single : ∀ (v : Value), v.cells.toList = [v] → GI w (P0 w) v.cells.toList us → FG P w (G0 (P0 w)) v (.e (.one (.pure (us.headD .nil0)))) := by
  intro v hv hr
  rw [hv] at hr
  match us, hr with
  | [u], hr => exact hr.1
 unfold Tu
 cases d with
 | zero => cases hp
 | succ d =>
  unfold HF at hp
  split at hp
  ·rename_i k hu
   rw [hu]
   obtain ⟨n, rfl⟩ := okWide_int hu hval
   exact single _ rfl h1
  ·rename_i hu
   rw [hu]
   obtain ⟨n, rfl⟩ := okWide_bool hu hval
   exact single _ rfl h1
  ·rename_i hu
   rw [hu]
   obtain ⟨n, rfl⟩ := okWide_string hu hval
   exact single _ rfl h1
  ·rename_i e hu
   rw [hu]
   obtain ⟨a, len, cap, rfl⟩ := okWide_slice hu hval
   exact single _ rfl h1
  ·rename_i fs hu
   rw [hu]
   simp only [Value.okWide, hu] at hval
   obtain ⟨cs, rfl, _, _⟩ := hval
   have h1 : GI w (P0 w) cs.toList us := h1
   refine ⟨cs, rfl, by simpa using h1.len, fun j c hj => ?_⟩
   rw [zA5] at hj
   cases hx : us[j]? with
   | none => rw [hx] at hj; cases hj
   | some u =>
    rw [hx] at hj; cases hj
    obtain ⟨v, h3, h4⟩ := h1.get j u hx
    have : Ap cs j = v := by unfold Ap; rw [show cs[j]? = some v from by simpa using h3]; rfl
    rw [this]; exact h4
  ·cases hp
theorem Qp {H : Type} {enc : TypeId × Value → H} {w : World} {d base : Nat} : ∀ {ts : List TypeId} {vs : List Value} {ds : List (DataW H)} {ps : List MemPlace}, (ts.all (HF P d)) = true → (∀ (j : Nat) t v, ts[j]? = some t → vs[j]? = some v → Value.okWide P w .any base t v) →
  DataW.TrodAll enc P w 0 (fun _ => true) true ts vs ds ps → ∃ Ds, Ic P d ts Ds ∧ vs.length = Ds.length ∧ ds.length = ts.length ∧ ∀ (j : Nat) (x : D), Ds[j]? = some x → ∃ v, vs[j]? = some v ∧ FG P w (G0 (P0 w)) v x
 | [], [], [], _, _, _, _ => ⟨[], trivial, rfl, rfl, fun j x h => by simp at h⟩
 | t :: ts, v :: vs, x :: xs, _, hp, hval, h => by
  obtain ⟨p, q, h1, h2, _⟩ := h
  simp only [zD7, zA1] at hp
  obtain ⟨us, h3, h4⟩ := UE hp.1 (hval 0 t v rfl rfl) h1
  obtain ⟨Ds, h5, h6, h7, h8⟩ := Qp hp.2 (fun j t v hj hv => hval (j + 1) t v (by simpa using hj) (by simpa using hv)) h2
  refine ⟨Tu P t us :: Ds, ⟨⟨us, h3, rfl⟩, h5⟩, by simp [h6], by simp [h7], fun j y hj => ?_⟩
  cases j with
  | zero => simp at hj; subst hj; exact ⟨v, rfl, h4⟩
  | succ j =>
   obtain ⟨v', g1, g2⟩ := h8 j y (by simpa using hj)
   exact ⟨v', by simpa using g1, g2⟩
 | [], [], _ :: _, _, _, _, h => h.elim
 | [], _ :: _, _, _, _, _, h => by cases ‹List (DataW H)› <;> exact h.elim
 | _ :: _, [], _, _, _, _, h => by cases ‹List (DataW H)› <;> exact h.elim
 | _ :: _, _ :: _, [], _, _, _, h => h.elim
theorem Ji {H : Type} {enc : TypeId × Value → H} (hl : laidOutB P = true) {W W' : World} (hb : Below W.heap.size W W') : ∀ {ts : List TypeId} {vs : List Value} {ds : List (DataW H)} {ps : List MemPlace}, (ts.all fun t => P.readableRec t && decide (t < P.types.size)) = true →
  DataW.TrodAll enc P W 0 (fun _ => true) true ts vs ds ps → (∀ x ∈ ps, x.block < W.heap.size) → DataW.TrodAll enc P W' 0 (fun b => decide (b < W.heap.size)) true ts vs ds ps
 | [], [], [], _, _, h, _ => h
 | t :: ts, v :: vs, x :: xs, _, hr, h, hlt => by
  obtain ⟨p, q, h1, h2, rfl⟩ := h
  simp only [zD7, zA1, decide_eq_true_eq] at hr
  refine ⟨p, q, Below.trod hl hr.1.1 hr.1.2 h1 hb (fun y hy => hlt y (by simp [hy])), Ji hl hb (by simpa using hr.2) h2 (fun y hy => hlt y (by simp [hy])), rfl⟩
 | [], [], _ :: _, _, _, h, _ => h.elim
 | [], _ :: _, _, _, _, h, _ => by cases ‹List (DataW H)› <;> exact h.elim
 | _ :: _, [], _, _, _, h, _ => by cases ‹List (DataW H)› <;> exact h.elim
 | _ :: _, _ :: _, [], _, _, h, _ => h.elim
end
end Go.Lift
namespace Go.Lift
open Go.RowKit
section
variable {P : Program}
def MK {α : Type} (P : Program) (t : TypeId) (e : α → List T) (W : α → Prop) : Prop := ∀ (d : Nat) (ts : List T), Ir P d t ts → ∃ x, ts = e x ∧ W x
theorem NV {t : TypeId} {k : IntKind} {e : Int → List T} (h : NC P t k = true) (he : ∀ n, e n = [.val (.int k n)]) : MK P t e (fun n => (Lit.int k n).wf = true) := by
 intro d ts hf
 cases d with
 | zero => exact hf.elim
 | succ d =>
  unfold NC at h
  unfold Ir at hf
  split at h
  ·rename_i k' hu
   rw [hu] at hf
   obtain ⟨n, rfl, hw⟩ := hf
   have : k' = k := by simpa using h
   subst this
   exact ⟨n, (he n).symm, hw⟩
  ·cases h
theorem RY {t : TypeId} {e : Bool → List T} (h : Us P t = true) (he : ∀ n, e n = [.val (.bool n)]) : MK P t e (fun _ => True) := by
 intro d ts hf
 cases d with
 | zero => exact hf.elim
 | succ d =>
  unfold Us at h
  unfold Ir at hf
  split at h
  ·rename_i hu
   rw [hu] at hf
   obtain ⟨n, rfl⟩ := hf
   exact ⟨n, (he n).symm, trivial⟩
  ·cases h
theorem L8 {α : Type} {e : α → List T} {W : α → Prop} : ∀ (rows : List (List T)), (∀ row, row ∈ rows → ∃ x, row = e x ∧ W x) → ∃ xs : List α, rows = xs.map e ∧ ∀ x, x ∈ xs → W x
 | [], _ => ⟨[], rfl, fun x h => by cases h⟩
 | r :: rows, h => by
  obtain ⟨x, rfl, hx⟩ := h r (by simp)
  obtain ⟨xs, rfl, hxs⟩ := L8 rows (fun row hr => h row (by simp [hr]))
  exact ⟨x :: xs, rfl, fun y hy => by
   rcases zB6.1 hy with e | e
   ·subst e; exact hx
   ·exact hxs y e⟩
theorem GW {α : Type} {t el : TypeId} {e : α → List T} {W : α → Prop} {e2 : List α → List T} (h : sliceB P t el = true) (he : MK P el e W) (h2 : ∀ xs, e2 xs = [.sl (xs.map e)]) : MK P t e2 (fun xs => ∀ x, x ∈ xs → W x) := by
 intro d ts hf
 cases d with
 | zero => exact hf.elim
 | succ d =>
  unfold sliceB at h
  unfold Ir at hf
  split at h
  ·rename_i e' hu
   rw [hu] at hf
   obtain ⟨rows, rfl, hr⟩ := hf
   have : e' = el := by simpa using h
   subst this
   obtain ⟨xs, rfl, hxs⟩ := L8 rows (fun row hm => he d row (hr row hm))
   exact ⟨xs, (h2 xs).symm, hxs⟩
  ·cases h
def E3 (P : Program) (t : TypeId) : Option (List TypeId) := match P.underlying t with | some (.struct fs) => some (fs.toList.map (·.type)) | _ => none
theorem Hh {t : TypeId} {tys : List TypeId} (h : E3 P t = some tys) {d : Nat} {ts : List T} (hf : Ir P d t ts) : ∃ d', SX (Ir P d') tys ts := by
 cases d with
 | zero => exact hf.elim
 | succ d =>
  unfold E3 at h
  unfold Ir at hf
  split at h
  ·rename_i fs hu
   cases h
   rw [hu] at hf
   exact ⟨d, hf⟩
  ·cases h
theorem P6 {t : TypeId} {tys : List TypeId} (h : E3 P t = some tys) (us : List T) : Tu P t us = .e (.agg (us.map .pure)) := by
 unfold E3 at h
 unfold Tu
 revert h
 cases P.underlying t with
 | none => intro h; cases h
 | some k => cases k <;> intro h <;> first | rfl | cases h
theorem Ts {t : TypeId} (h : E3 P t = none) (us : List T) : Tu P t us = .e (.one (.pure (us.headD .nil0))) := by
 unfold E3 at h
 unfold Tu
 revert h
 cases P.underlying t with
 | none => intro _; rfl
 | some k => cases k <;> intro h <;> first | rfl | cases h
theorem Kh {d : Nat} {t : TypeId} {ts : List TypeId} {Ds : List D} (h : Ic P d (t :: ts) Ds) : ∃ us xs, Ds = Tu P t us :: xs ∧ Ir P d t us ∧ Ic P d ts xs := by
 cases Ds with
 | nil => exact h.elim
 | cons x xs => obtain ⟨⟨us, h1, rfl⟩, h2⟩ := h; exact ⟨us, xs, rfl, h1, h2⟩
theorem OT {d : Nat} {Ds : List D} (h : Ic P d [] Ds) : Ds = [] := by
 cases Ds with
 | nil => rfl
 | cons x xs => exact h.elim
end
end Go.Lift
namespace Go.Lift
open List renaming mem_of_getElem? → lM
open List renaming getD_eq_getElem?_getD → lD
open Go.RowKit
variable {P : Program} {X : Gt} {ops : Array Oper}
instance : Inhabited Bj := ⟨.gone⟩
def G6 (n m b : Nat) : Bool := if Bt b then Nat.blt (b - 90000) n else Nat.blt b m
def Qb (G : Gh) (n : Nat) (β : Nat) : Prop := ∃ k, k < n ∧ G.has (90000 + k) β
theorem He {k : Nat} (h : k < 1000) : Bt (90000 + k) = true := by
 unfold Bt
 rw [zG4 (by omega), zG4 (by omega)]; rfl
theorem Q9 {k : Nat} (h : k < 900) : K2 (90000 + k) = true := by
 unfold K2
 rw [zA1]
 exact ⟨zG4 (by omega), zG4 (by omega)⟩
theorem HY {b : Nat} (h : Bt b = true) : ∃ k, k < 1000 ∧ b = 90000 + k := by
 unfold Bt at h
 rw [zA1] at h
 have h1 := zB5 h.1
 have h2 := zB5 h.2
 exact ⟨b - 90000, by omega, by omega⟩
def DG (P : Program) (f : FuncId) (args : List D) (lent : List (Bj × Bj)) (rv : List Bj) (res : D) : Prop :=
 ∀ (w : World) (G : Gh) (vs : Array Value), (∀ β, G.S β → β < w.heap.size) → Si P w G.S →
  (∀ (k : Nat) (x : Bj × Bj), lent[k]? = some x → DV P w G (90000 + k) x.1) →
  (∀ k β, k < lent.length → G.has (90000 + k) β → β < w.heap.size ∧ ¬ G.S β) →
  (∀ k l β, k < lent.length → l < lent.length → G.has (90000 + k) β → G.has (90000 + l) β → k = l) →
  vs.size = args.length → (∀ (j : Nat) (d : D), args[j]? = some d → FG P w G (Ap vs j) d) →
  Calls P f vs w fun e w' => ∃ v G', e = .returned v ∧ B7 (Qb G lent.length) w.heap.size w w' ∧ (∀ β, G.S β → G'.S β) ∧ (∀ β, G'.S β → G.S β ∨ (w.heap.size ≤ β ∧ β < w'.heap.size)) ∧ FG P w' G' v res ∧
   (∀ (k : Nat) (x : Bj × Bj), lent[k]? = some x → DV P w' G' (90000 + k) x.2) ∧
   (∀ (k : Nat) (x : Bj), rv[k]? = some x → DV P w' G' k x) ∧
   (∀ k, k < lent.length → G'.loc (90000 + k) = G.loc (90000 + k) ∧ G'.hd (90000 + k) = G.hd (90000 + k) ∧ G'.more (90000 + k) = G.more (90000 + k)) ∧
   (∀ k β, k < lent.length → G'.has (90000 + k) β → ¬ G'.S β) ∧
   (∀ k β, k < rv.length → G'.has k β → w.heap.size ≤ β ∧ β < w'.heap.size ∧ ¬ G'.S β) ∧
   (∀ k l β, k < rv.length → l < rv.length → G'.has k β → G'.has l β → k = l)
def MP (args : List D) (lent : List (Bj × Bj)) : St := ⟨fun s => args[s]?, fun b => if Bt b then (lent[b - 90000]?).map (·.1) else none⟩
def NR (bx : Nat → Option Bj) (f : Nat → Nat) : Nat → List (Bj × Bj) → Prop
 | _, [] => True
 | k, x :: xs => bx (90000 + k) = some (x.2.ren f) ∧ NR bx f (k + 1) xs
def Pq (bx : Nat → Option Bj) (f : Nat → Nat) : Nat → List Bj → Prop
 | _, [] => True
 | k, x :: xs => bx (1000 + k) = some (x.ren f) ∧ Pq bx f (k + 1) xs
theorem KO {bx : Nat → Option Bj} {f : Nat → Nat} : ∀ {l : List (Bj × Bj)} {m : Nat}, NR bx f m l → ∀ (k : Nat) (x : Bj × Bj), l[k]? = some x → bx (90000 + (m + k)) = some (x.2.ren f)
 | y :: rv, m, h, 0, x, hk => by simp at hk; subst hk; exact h.1
 | y :: rv, m, h, k + 1, x, hk => by
  have := KO h.2 k x (by simpa using hk)
  rwa [show m + 1 + k = m + (k + 1) from by omega] at this
theorem LT {bx : Nat → Option Bj} {f : Nat → Nat} : ∀ {l : List Bj} {m : Nat}, Pq bx f m l → ∀ (k : Nat) (x : Bj), l[k]? = some x → bx (1000 + (m + k)) = some (x.ren f)
 | y :: rv, m, h, 0, x, hk => by simp at hk; subst hk; exact h.1
 | y :: rv, m, h, k + 1, x, hk => by
  have := LT h.2 k x (by simpa using hk)
  rwa [show m + 1 + k = m + (k + 1) from by omega] at this
def Ja (b : Nat) : Nat := if Bt b then b else 1000 + b
structure RA (P : Program) (rs : List ResultVar) (st : St) (lent : List (Bj × Bj)) (rv : List Bj) (res : D) : Prop where
 r : ∃ xs, V4 P st rs xs ∧ WG xs = res.ren Ja
 l : NR st.bx Ja 0 lent
 v : Pq st.bx Ja 0 rv
def Gq (n m : Nat) (l : List Nat) : Bool := l.all (G6 n m)
theorem DA {f n : Nat} {fn : Func} {c : Code} {args : List D} {lent : List (Bj × Bj)} {rv : List Bj} {res : D} {rs : List ResultVar} (hf : P.funcs[f]? = some fn) (hb : fn.body = some c) (hn : fn.ntmps = n) (hrs : fn.results.toList = rs) (hl : args.length ≤ n) (hn9 : n ≤ 90000)
  (hargs : (args.all fun d => Gq lent.length 0 d.names) = true) (hpre : (lent.all fun x => Gq lent.length 0 x.1.names && x.1.real && x.2.real) = true) (hll : lent.length ≤ 900) (hrl : (rv.all fun x => x.real) = true) (hrn : rv.length ≤ 1000)
  (h : ∀ (w0 : World) (S0 : Nat → Prop) (GL : Gh), W P ⟨w0, S0, n, GL⟩ c (fun e st => match e with | .normal | .ret => RA P rs st lent rv res | _ => False) (MP args lent)) : DG P f args lent rv res := by
 subst hn; subst hrs
 intro w G vs hS hgk hlb hla hli hlen hrd
 refine calls_of_wp hf hb ?_
 have hcell : ∀ j, j < args.length → Ap (vs ++ zH8 (fn.ntmps - vs.size) undef) j = Ap vs j := fun j hj => AU (by omega)
 -- the ghost that knows of what is lent alone
 let dom : Nat → Prop := fun b => Bt b = true ∧ b - 90000 < lent.length
 have hdec : ∀ b, Decidable (dom b) := fun b => inferInstanceAs (Decidable (_ ∧ _))
 let GL : Gh := { S := G.S, loc := fun b => if dom b then G.loc b else none, hd := fun b => if dom b then G.hd b else undef, more := fun b => if dom b then G.more b else fun _ => False }
 have hext : G.ext GL dom := ⟨fun _ h => h, fun b hb => if_pos hb, fun b hb => if_pos hb, fun b hb => if_pos hb⟩
 have hdomk : ∀ k, k < lent.length → dom (90000 + k) := fun k hk => ⟨He (by omega), by omega⟩
 have hin : ∀ b, G6 lent.length 0 b = true → dom b := by
  intro b hb
  unfold G6 at hb
  split at hb
  ·rename_i hl; exact ⟨hl, by rwa [zF4] at hb⟩
  ·simp [Nat.blt] at hb
 have hhas : ∀ b β, GL.has b β → dom b ∧ G.has b β := by
  intro b β hb
  by_cases hd : dom b
  ·exact ⟨hd, (hext.has hd).1 hb⟩
  ·exfalso
   unfold Gh.has at hb
   simp only [GL] at hb
   rw [if_neg hd, if_neg hd] at hb
   rcases hb with h | h
   ·cases h
   ·exact h
 have hlent : ∀ β, GL.lent β ↔ Qb G lent.length β := by
  intro β
  constructor
  ·rintro ⟨b, hb, hb2⟩
   obtain ⟨hd, hg⟩ := hhas b β hb2
   obtain ⟨k, _, rfl⟩ := HY hb
   exact ⟨k, by have := hd.2; omega, hg⟩
  ·rintro ⟨k, hk, hg⟩
   exact ⟨90000 + k, He (by omega), (hext.has (hdomk k hk)).2 hg⟩
 have hbx : ∀ b k, (MP args lent).bx b = some k → dom b ∧ ∃ x, lent[b - 90000]? = some x ∧ x.1 = k := by
  intro b k hk
  simp only [MP] at hk
  split at hk
  ·rename_i hb
   cases hx : lent[b - 90000]? with
   | none => rw [hx] at hk; cases hk
   | some x => rw [hx] at hk; cases hk; exact ⟨⟨hb, AA hx⟩, x, rfl, rfl⟩
  ·cases hk
 have hdn : ∀ b, dom b → ((MP args lent).bx b).isSome = true := by
  intro b hb
  simp only [MP]
  rw [if_pos hb.1]
  simp [hb.2]
 have hpre' : ∀ x, x ∈ lent → Gq lent.length 0 x.1.names = true ∧ x.1.real = true ∧ x.2.real = true := fun x hx => by
  have := zA2.1 hpre x hx
  rw [zA1, zA1] at this
  exact ⟨this.1.1, this.1.2, this.2⟩
 have hbk : ∀ b, dom b → b = 90000 + (b - 90000) := fun b hb => by obtain ⟨k, _, e⟩ := HY hb.1; omega
 have hinit : Cu P ⟨w, G.S, fn.ntmps, GL⟩ GL (MP args lent) { tmps := vs ++ zH8 (fn.ntmps - vs.size) undef, defers := [] } w := by
  refine { S_lt := hS, S_src := fun β h => .inl h, S_0 := fun β h => h, S0_lt := hS, tsz := by simp; omega, defers := rfl, below := B7.refl _ _ _, gok := hgk, nlt := hn9, lent := fun _ _ => ⟨rfl, rfl, rfl⟩, blk := ?_, at_ok := ?_, at_inj := ?_, env := ?_, live := ?_, liveB := ?_ }
  ·intro b k hk
   obtain ⟨hd, x, hx, rfl⟩ := hbx b k hk
   have h1 := hlb _ x hx
   rw [← hbk b hd] at h1
   exact h1.mono hext hd (fun _ _ => rfl) (fun _ _ _ => rfl) fun c hc => hin c (zA2.1 (hpre' x (lM hx)).1 c hc)
  ·intro b k β hk hr hβ
   obtain ⟨hd, hg⟩ := hhas b β hβ
   rw [hbk b hd] at hg
   have := hla _ β hd.2 hg
   exact ⟨⟨fun h3 => (by rw [hd.1] at h3; cases h3), .inr ⟨b, hd.1, hβ⟩⟩, this.1, this.2⟩
  ·intro b c k l β hk hl hr hr' hβ hβ'
   obtain ⟨hd, hg⟩ := hhas b β hβ
   obtain ⟨hd', hg'⟩ := hhas c β hβ'
   rw [hbk b hd] at hg
   rw [hbk c hd'] at hg'
   have := hli _ _ β hd.2 hd'.2 hg hg'
   rw [hbk b hd, hbk c hd', this]
  ·intro s d hs
   have hs' : args[s]? = some d := hs
   rw [hcell s (AA hs')]
   exact (hrd s d hs').mono hext (fun _ _ => rfl) fun b hb => hin b (zA2.1 (zA2.1 hargs d (lM hs')) b hb)
  ·intro s d hs b hb
   have hs' : args[s]? = some d := hs
   exact hdn b (hin b (zA2.1 (zA2.1 hargs d (lM hs')) b hb))
  ·intro b k hk c hc
   obtain ⟨hd, x, hx, rfl⟩ := hbx b k hk
   exact hdn c (hin c (zA2.1 (hpre' x (lM hx)).1 c hc))
 refine wp_mono (h w G.S GL _ w ⟨_, hinit⟩) ?_
 rintro e a' w' ⟨st', hq, G2, hs⟩
 have key : RA P fn.results.toList st' lent rv res → a'.defers = [] ∧ ∃ v, (results fn a'.tmps).run P w' = .ok v w' ∧ ∃ v' G', Ending.returned v = .returned v' ∧ B7 (Qb G lent.length) w.heap.size w w' ∧ (∀ β, G.S β → G'.S β) ∧ (∀ β, G'.S β → G.S β ∨ (w.heap.size ≤ β ∧ β < w'.heap.size)) ∧ FG P w' G' v' res ∧
   (∀ (k : Nat) (x : Bj × Bj), lent[k]? = some x → DV P w' G' (90000 + k) x.2) ∧
   (∀ (k : Nat) (x : Bj), rv[k]? = some x → DV P w' G' k x) ∧
   (∀ k, k < lent.length → G'.loc (90000 + k) = G.loc (90000 + k) ∧ G'.hd (90000 + k) = G.hd (90000 + k) ∧ G'.more (90000 + k) = G.more (90000 + k)) ∧
   (∀ k β, k < lent.length → G'.has (90000 + k) β → ¬ G'.S β) ∧
   (∀ k β, k < rv.length → G'.has k β → w.heap.size ≤ β ∧ β < w'.heap.size ∧ ¬ G'.S β) ∧
   (∀ k l β, k < rv.length → l < rv.length → G'.has k β → G'.has l β → k = l) := by
  rintro ⟨⟨xs, hr1, hr2⟩, hlp, hv⟩
  obtain ⟨us, h1, h2, h3⟩ := hs.rrs hr1
  have hoL : ∀ k, k < lent.length → Ja (90000 + k) = 90000 + k := fun k hk => by unfold Ja; rw [He (by omega)]; rfl
  have hoN : ∀ k, k < rv.length → Ja k = 1000 + k := fun k hk => by unfold Ja; rw [HN (show k < 1000 by omega) (by omega)]; rfl
  have hbl : ∀ (k : Nat) (x : Bj × Bj), lent[k]? = some x → st'.bx (90000 + k) = some (x.2.ren Ja) := fun k x hk => by
   have := KO hlp k x hk
   rwa [zA4] at this
  have hbv : ∀ (k : Nat) (x : Bj), rv[k]? = some x → st'.bx (1000 + k) = some (x.ren Ja) := fun k x hk => by
   have := LT hv k x hk
   rwa [zA4] at this
  have hreal : ∀ (k : Nat) (x : Bj), rv[k]? = some x → (x.ren Ja).real = true := fun k x hk => by
   rw [HT]; exact zA2.1 hrl x (lM hk)
  have hgl : ∀ k, k < lent.length → G2.loc (90000 + k) = G.loc (90000 + k) ∧ G2.hd (90000 + k) = G.hd (90000 + k) ∧ G2.more (90000 + k) = G.more (90000 + k) := fun k hk => by
   obtain ⟨e1, e2, e3⟩ := hs.lent (90000 + k) (Q9 (by omega))
   exact ⟨e1.trans (hext.loc _ (hdomk k hk)), e2.trans (hext.hd _ (hdomk k hk)), e3.trans (hext.more _ (hdomk k hk))⟩
  refine ⟨hs.defers, (if h : us.toArray.size = 1 then us.toArray[0] else .tuple us.toArray), ?_, _, { S := G2.S, loc := fun b => G2.loc (Ja b), hd := fun b => G2.hd (Ja b), more := fun b => G2.more (Ja b) }, rfl, ?_, hs.S_0, ?_, ?_, ?_, ?_, ?_, ?_, ?_, ?_⟩
  ·unfold results
   refine Af (a := us.toArray) (w1 := w') ?_ rfl
   rw [Array.mapM_eq_mapM_toList]
   simp only [Sem.run_map]
   exact congrArg (fun r => Result.andThen r fun a w' => Result.ok a.toArray w') h1
  ·have hb := hs.below
   exact ⟨hb.os, hb.tape, hb.output, hb.size, hb.drawn, fun k hk hl => hb.block k hk fun h => hl ((hlent k).1 h)⟩
  ·intro β hβ
   rcases hs.S_src β hβ with h | h
   ·exact .inl h
   ·exact .inr ⟨h, hs.S_lt β hβ⟩
  ·refine Hg (f := Ja) ?_
   rw [← hr2]
   match xs, us, h2 with
   | [], [], _ => exact ⟨#[], rfl, rfl, fun j x h => by simp at h⟩
   | [x], [u], _ => exact h3 0 u x rfl rfl
   | x :: y :: xs, u :: u' :: us, hl2 =>
    refine ⟨(u :: u' :: us).toArray, by simp, by simpa using hl2, fun j z hj => ?_⟩
    have hlt := AA hj
    have hu : (u :: u' :: us)[j]? = some ((u :: u' :: us)[j]'(by rw [hl2]; exact hlt)) := by rw [zB3]
    have := h3 j _ z hu hj
    have hc : Ap (u :: u' :: us).toArray j = (u :: u' :: us)[j]'(by rw [hl2]; exact hlt) := by
     unfold Ap
     rw [List.getElem?_toArray, hu]; rfl
    rw [hc]; exact this
  ·intro k x hk
   refine G8 (f := Ja) ?_
   rw [hoL k (AA hk)]
   exact hs.blk _ _ (hbl k x hk)
  ·intro k x hk
   refine G8 (f := Ja) ?_
   rw [hoN k (AA hk)]
   exact hs.blk _ _ (hbv k x hk)
  ·intro k hk
   simp only [hoL k hk]
   exact hgl k hk
  ·intro k β hk hβ
   have hx : lent[k]? = some lent[k] := by simp [hk]
   have hβ : G2.has (90000 + k) β := by
    unfold Gh.has at hβ ⊢
    simp only [hoL k hk] at hβ
    exact hβ
   exact (hs.at_ok _ _ β (hbl k _ hx) (by rw [HT]; exact (hpre' _ (lM hx)).2.2) hβ).2.2
  ·intro k β hk hβ
   have hx : rv[k]? = some rv[k] := by simp [hk]
   have hβ : G2.has (1000 + k) β := by
    unfold Gh.has at hβ ⊢
    simp only [hoN k hk] at hβ
    exact hβ
   have := hs.at_ok _ _ β (hbv k _ hx) (hreal k _ hx) hβ
   exact ⟨this.1.1 (HN (show 1000 + k < 3000 by omega) (by omega)), this.2⟩
  ·intro k l β hk hl hβ hβ'
   have hx : rv[k]? = some rv[k] := by simp [hk]
   have hx' : rv[l]? = some rv[l] := by simp [hl]
   have hβ : G2.has (1000 + k) β := by
    unfold Gh.has at hβ ⊢
    simp only [hoN k hk] at hβ
    exact hβ
   have hβ' : G2.has (1000 + l) β := by
    unfold Gh.has at hβ' ⊢
    simp only [hoN l hl] at hβ'
    exact hβ'
   have := hs.at_inj _ _ _ _ β (hbv k _ hx) (hbv l _ hx') (hreal k _ hx) (hreal l _ hx') hβ hβ'
   omega
 cases e with
 | normal => exact key hq
 | ret => exact key hq
 | _ => exact hq.elim
def nu (ls ns : List Nat) (b : Nat) : Nat := if Bt b then ls.getD (b - 90000) 0 else ns.getD b 0
def Mg (f : Nat → Nat) : List Nat → List (Bj × Bj) → List (Nat × Bj)
 | l :: ls, x :: xs => (l, x.1.ren f) :: Mg f ls xs
 | _, _ => []
def Ha (f : Nat → Nat) : List Nat → List (Bj × Bj) → List Bool → List (Nat × Bj) → List (Nat × Bj)
 | l :: ls, x :: xs, c :: cs, r => if c then (l, x.2.ren f) :: Ha f ls xs cs r else Ha f ls xs cs r
 | _, _, _, r => r
def newB (f : Nat → Nat) : List Nat → List Bj → List (Nat × Bj)
 | n :: ns, x :: xs => (n, x.ren f) :: newB f ns xs
 | _, _ => []
def Qm : List (Bj × Bj) → List Bool → Prop
 | x :: xs, c :: cs => (c = false → x.1 = x.2) ∧ Qm xs cs
 | [], [] => True
 | _, _ => False
theorem M2 {f : Nat → Nat} {bx : Nat → Option Bj} : ∀ {ls : List Nat} {lent : List (Bj × Bj)}, ls.length = lent.length → Gi bx (Mg f ls lent) → ∀ (k : Nat) (x : Bj × Bj), lent[k]? = some x → bx (nm ls k) = some (x.1.ren f)
 | [], [], _, _, k, y, hk => by simp at hk
 | l :: ls, x :: xs, hl, h, 0, y, hk => by simp at hk; subst hk; exact h.1
 | l :: ls, x :: xs, hl, h, k + 1, y, hk => by
  have := M2 (ls := ls) (lent := xs) (by simpa using hl) h.2 k y (by simpa using hk)
  simpa [nm] using this
theorem MV {f : Nat → Nat} {bx : Nat → Option Bj} {r : List (Nat × Bj)} : ∀ {ls : List Nat} {lent : List (Bj × Bj)} {ch : List Bool}, ls.length = lent.length → ls.Nodup → Qm lent ch → (∀ c, c ∈ ls → Be bx r c = bx c) → Gi bx (Mg f ls lent) →
  (∀ c, c ∉ ls → Be bx (Ha f ls lent ch r) c = Be bx r c) ∧ ∀ (k : Nat) (x : Bj × Bj), lent[k]? = some x → Be bx (Ha f ls lent ch r) (nm ls k) = some (x.2.ren f)
 | [], [], [], _, _, _, _, _ => ⟨fun _ _ => rfl, fun k x h => by simp at h⟩
 | [], [], _ :: _, _, _, h, _, _ => h.elim
 | l :: ls, x :: xs, [], hl, hnd, hc, hr, hp => by cases hc
 | l :: ls, x :: xs, c :: cs, hl, hnd, hc, hr, hp => by
  have ih := MV (f := f) (bx := bx) (r := r) (ls := ls) (lent := xs) (ch := cs) (by simpa using hl) (zE7.1 hnd).2 hc.2 (fun c hc => hr c (by simp [hc])) hp.2
  have hln : l ∉ ls := (zE7.1 hnd).1
  have hl0 : Be bx (Ha f ls xs cs r) l = bx l := (ih.1 l hln).trans (hr l (by simp))
  refine ⟨fun d hd => ?_, fun k y hk => ?_⟩
  ·simp only [zB6, not_or] at hd
   simp only [Ha]
   split
   ·simp only [Be]; rw [if_neg hd.1]; exact ih.1 d hd.2
   ·exact ih.1 d hd.2
  ·cases k with
   | zero =>
    simp at hk; subst hk
    simp only [Ha, nm, List.getD_cons_zero]
    split
    ·simp [Be]
    ·rename_i hcc
     have hcf : c = false := by simpa using hcc
     rw [hl0, hp.1, hc.1 hcf]
   | succ k =>
    have hk' : xs[k]? = some y := by simpa using hk
    have hlt := AA hk'
    have hlt2 : k < ls.length := by simp at hl; omega
    have e : nm (l :: ls) (k + 1) = nm ls k := by simp [nm]
    rw [e]
    have hne : nm ls k ≠ l := fun h => hln (h ▸ D4 hlt2)
    simp only [Ha]
    split
    ·simp only [Be]; rw [if_neg hne]; exact ih.2 k y hk'
    ·exact ih.2 k y hk'
theorem J3 {f : Nat → Nat} {bx : Nat → Option Bj} : ∀ {ns : List Nat} {rv : List Bj} {c : Nat}, ns.length = rv.length → ns.Nodup →
  (c ∉ ns → Be bx (newB f ns rv) c = bx c) ∧ ∀ (k : Nat) (x : Bj), rv[k]? = some x → Be bx (newB f ns rv) (nm ns k) = some (x.ren f)
 | [], [], c, _, _ => ⟨fun _ => rfl, fun k x h => by simp at h⟩
 | n :: ns, x :: xs, c, hl, hnd => by
  have ih := J3 (f := f) (bx := bx) (ns := ns) (rv := xs) (c := c) (by simpa using hl) (zE7.1 hnd).2
  refine ⟨fun hc => ?_, fun k y hk => ?_⟩
  ·simp only [zB6, not_or] at hc
   simp only [newB, Be]
   rw [if_neg hc.1]; exact ih.1 hc.2
  ·cases k with
   | zero => simp at hk; subst hk; simp [newB, Be, nm]
   | succ k =>
    have hk' : xs[k]? = some y := by simpa using hk
    have hlt := AA hk'
    have hlt2 : k < ns.length := by simp at hl; omega
    have : nm (n :: ns) (k + 1) = nm ns k := by simp [nm]
    rw [this]
    have hne : nm ns k ≠ n := fun e => (zE7.1 hnd).1 (e ▸ D4 hlt2)
    simp only [newB, Be]
    rw [if_neg hne]
    exact (J3 (f := f) (bx := bx) (ns := ns) (rv := xs) (c := c) (by simpa using hl) (zE7.1 hnd).2).2 k y hk'
theorem F4 {ls ns : List Nat} {k : Nat} (h : k < 1000) : nu ls ns (90000 + k) = nm ls k := by
 unfold nu nm; rw [He h, if_pos rfl, show 90000 + k - 90000 = k from by omega]
theorem KD {ls ns : List Nat} {k : Nat} (h : k < 90000) : nu ls ns k = nm ns k := by
 unfold nu nm; rw [HN h (zC5 _), if_neg (by simp)]
theorem Jx {bx : Nat → Option Bj} {c : Nat} : ∀ {wb : List (Nat × Bj)}, (bx c).isSome = true → (Be bx wb c).isSome = true
 | [], h => h
 | p :: ps, h => by
  simp only [Be]; split
  ·rfl
  ·exact Jx h
section run
variable {dr : Bool} {Q : St → Prop} {r i : Nat} {st : St} {log : List (Nat × B5)} {o : Oper} {gs : List (Operand × D)}
theorem Rm {f s : Nat} {xs : List Operand} {ds0 ds : List D} {lent : List (Bj × Bj)} {rv : List Bj} {res : D} {ts : Array TypeId} (ls ns : List Nat) (ch : List Bool) (hc : DG P f ds lent rv res) (hat : At st.env ops i X.n (.call ⟨.value (.func f), xs.toArray, ts⟩) s gs)
  (hf : Az P f = true) (hl : xs.length = ds0.length) (hds : ds0.map D.nrm = ds.map (D.ren (nu ls ns)))
  (hll : ls.length = lent.length) (hln : ls.Nodup) (hns : ns.length = rv.length) (hndl : ID ns) (hch : Qm lent ch)
  (hlim : (zF2 lent.length 1000 && zF2 rv.length 1000) = true) (hre : (lent.all fun x => x.1.real && x.2.real) = true)
  (hnm : (Gq lent.length rv.length res.names && (lent.all fun x => Gq lent.length rv.length x.2.names) && rv.all fun x => Gq lent.length rv.length x.names) = true) : LR P X ops i ⟨gs ++ FN xs ds0, Mg (nu ls ns) ls lent, some s, some (res.ren (nu ls ns)), Ha (nu ls ns) ls lent ch (newB (nu ls ns) ns rv), ns⟩ := by
 obtain ⟨o, ho, hop, hd, hn, hg, hgp⟩ := hat.out
 have hnd := hndl.1
 rw [zA1] at hlim
 have hlim1 := zB5 hlim.1
 have hlim2 := zB5 hlim.2
 rw [zA1, zA1] at hnm
 obtain ⟨⟨hnmR, hnmL⟩, hnmV⟩ := hnm
 have hre' : ∀ x, x ∈ lent → x.1.real = true ∧ x.2.real = true := fun x hx => by
  have := zA2.1 hre x hx
  rw [zA1] at this
  exact this
 intro st a w K Q' hs hpre hK
 obtain ⟨G, hs⟩ := hs
 have hx := (Aj.1 hpre.r).2
 have hw := hs.wanted hg (Aj.1 hpre.r).1
 have hnew := hpre.n
 have hlb := hpre.b
 have hnew' : ∀ c, c ∈ ns → st.bx c = none := by
  have : ∀ {l : List Nat}, JA st.bx l → ∀ c, c ∈ l → st.bx c = none := by
   intro l
   induction l with
   | nil => intro _ c hc; cases hc
   | cons b l ih =>
    intro h c hc
    rcases zB6.1 hc with e | e
    ·subst e; exact h.1
    ·exact ih h.2 c e
  exact this hnew
 have hget := fun k x hk => M2 (f := nu ls ns) hll hlb k x hk
 have hlk : ∀ k, k < lent.length → st.bx (nm ls k) = some (lent[k]!.1.ren (nu ls ns)) ∧ (lent[k]!.1.ren (nu ls ns)).real = true := fun k hk => by
  have hx0 : lent[k]? = some lent[k]! := by simp [hk]
  exact ⟨hget k _ hx0, by rw [HT]; exact (hre' _ (lM hx0)).1⟩
 have hlsns : ∀ c, c ∈ ls → c ∉ ns := fun c hc hm => by
  obtain ⟨k, hk, e⟩ := Jr hc
  have := (hlk k (by omega)).1
  rw [e, hnew' c hm] at this; cases this
 unfold wpOp
 rw [ho]
 simp only [hw, if_true]
 refine .inl ?_
 unfold Oper.wp
 have hrun : (execOp a.eval o).run P w = .ok (.enter f (xs.toArray.map a.eval)) w := by
  simp only [execOp, hop]
  exact Hb hf rfl
 rw [hrun]
 show Calls P f (xs.toArray.map a.eval) w _
 let Gc : Gh := { S := G.S, loc := fun b => G.loc (nu ls ns b), hd := fun b => G.hd (nu ls ns b), more := fun b => G.more (nu ls ns b) }
 have hGc : ∀ k β, k < lent.length → (Gc.has (90000 + k) β ↔ G.has (nm ls k) β) := fun k β hk => by
  unfold Gh.has; simp only [Gc]; rw [F4 (by omega)]
 refine (hc w Gc (xs.toArray.map a.eval) hs.S_lt hs.gok ?_ ?_ ?_ ?_ ?_).mono ?_
 ·intro k x hk
  refine G8 (f := nu ls ns) ?_
  rw [F4 (by have := AA hk; omega)]
  exact hs.blk _ _ (hget k x hk)
 ·intro k β hk hβ
  have h1 := hlk k hk
  exact (hs.at_ok _ _ β h1.1 h1.2 ((hGc k β hk).1 hβ)).2
 ·intro k l β hk hl' hβ hβ'
  have h1 := hlk k hk
  have h2 := hlk l hl'
  have := hs.at_inj _ _ _ _ β h1.1 h2.1 h1.2 h2.2 ((hGc k β hk).1 hβ) ((hGc l β hl').1 hβ')
  exact LB hln (by omega) (by omega) this
 ·have h1 := congrArg zG1 hds
  simp at h1
  simp; omega
 ·intro j d hj
  have hj2 : (ds.map (D.ren (nu ls ns)))[j]? = some (d.ren (nu ls ns)) := by rw [zA5, hj]; rfl
  rw [← hds, zA5] at hj2
  obtain ⟨d0, hj0, hd0⟩ : ∃ d0, ds0[j]? = some d0 ∧ d0.nrm = d.ren (nu ls ns) := by
   cases hx0 : ds0[j]? with
   | none => rw [hx0] at hj2; cases hj2
   | some d0 => rw [hx0] at hj2; exact ⟨d0, rfl, by simpa using hj2⟩
  have hlt := AA hj0
  have hxj : xs[j]? = some (xs[j]'(by omega)) := by simp [show j < xs.length from by omega]
  have hop' := GZ hl hx j _ d0 hxj hj0
  have hcell : Ap (xs.toArray.map a.eval) j = a.eval (xs[j]'(by omega)) := by simp [Ap, show j < xs.length from by omega]
  rw [hcell]
  refine Hg (f := nu ls ns) ?_
  rw [← hd0]
  exact (hs.opd hop').nrm
 ·rintro e w' ⟨v, G', rfl, hbel, hS1, hS2, hres', hpost, hvec, hsame, hlS, hvat, hvinj⟩
  show K (a.put o.dst v) w'
  rw [hd]
  let G2 : Gh := { S := G'.S, loc := fun c => if c ∈ ns then G'.loc (ns.idxOf c) else G.loc c, hd := fun c => if c ∈ ns then G'.hd (ns.idxOf c) else G.hd c, more := fun c => if c ∈ ns then G'.more (ns.idxOf c) else G.more c }
  have hidx : ∀ k, k < ns.length → ns.idxOf (nm ns k) = k := by
   intro k hk
   have hm := D4 hk
   have h1 : ns.idxOf (nm ns k) < ns.length := zG8 hm
   refine LB hnd h1 hk ?_
   have h2 := zI7 h1
   show ns.getD (ns.idxOf (nm ns k)) 0 = nm ns k
   rw [lD, zB3 h1, zC2, h2]
  have hvia : G'.via G2 (nu ls ns) (fun b => G6 lent.length rv.length b = true) := by
   have key : ∀ b, G6 lent.length rv.length b = true → (∃ k, k < lent.length ∧ b = 90000 + k) ∨ (b < rv.length ∧ Bt b = false) := by
    intro b hb
    unfold G6 at hb
    split at hb
    ·rename_i h
     obtain ⟨k, _, rfl⟩ := HY h
     rw [zF4] at hb
     exact .inl ⟨k, by omega, rfl⟩
    ·rename_i h
     rw [zF4] at hb
     exact .inr ⟨hb, by simpa using h⟩
   refine ⟨fun β h => h, fun b hb => ?_, fun b hb => ?_, fun b hb => ?_⟩
   ·rcases key b hb with ⟨k, hk, rfl⟩ | ⟨hb1, hb2⟩
    ·rw [F4 (by omega)]
     have hni : nm ls k ∉ ns := hlsns _ (D4 (by omega))
     simp only [G2]; rw [if_neg hni, (hsame k hk).1]; simp only [Gc]; rw [F4 (by omega)]
    ·rw [KD (by omega)]
     simp only [G2]; rw [if_pos (D4 (by omega)), hidx b (by omega)]
   ·rcases key b hb with ⟨k, hk, rfl⟩ | ⟨hb1, hb2⟩
    ·rw [F4 (by omega)]
     have hni : nm ls k ∉ ns := hlsns _ (D4 (by omega))
     simp only [G2]; rw [if_neg hni, (hsame k hk).2.1]; simp only [Gc]; rw [F4 (by omega)]
    ·rw [KD (by omega)]
     simp only [G2]; rw [if_pos (D4 (by omega)), hidx b (by omega)]
   ·rcases key b hb with ⟨k, hk, rfl⟩ | ⟨hb1, hb2⟩
    ·rw [F4 (by omega)]
     have hni : nm ls k ∉ ns := hlsns _ (D4 (by omega))
     simp only [G2]; rw [if_neg hni, (hsame k hk).2.2]; simp only [Gc]; rw [F4 (by omega)]
    ·rw [KD (by omega)]
     simp only [G2]; rw [if_pos (D4 (by omega)), hidx b (by omega)]
  have hext : G.ext G2 (fun b => (st.bx b).isSome = true) := by
   have : ∀ b, (st.bx b).isSome = true → b ∉ ns := fun b hb hm => by rw [hnew' b hm] at hb; cases hb
   exact ⟨fun β h => hS1 β h, fun b hb => by simp only [G2]; rw [if_neg (this b hb)], fun b hb => by simp only [G2]; rw [if_neg (this b hb)], fun b hb => by simp only [G2]; rw [if_neg (this b hb)]⟩
  have hnotL : ∀ β, Qb Gc lent.length β → ∃ k, k < lent.length ∧ G.has (nm ls k) β := fun β ⟨k, hk, hb⟩ => ⟨k, hk, (hGc k β hk).1 hb⟩
  have hwS : ∀ β, G.S β → w'.heap[β]? = w.heap[β]? := fun β hβ => hbel.block β (hs.S_lt β hβ) fun h => by
   obtain ⟨k, hk, hg⟩ := hnotL β h
   exact (hs.at_ok _ _ β (hlk k hk).1 (hlk k hk).2 hg).2.2 hβ
  have hsz := hbel.size
  have hle := hs.below.size
  have hng := fun c => J3 (f := nu ls ns) (bx := st.bx) (ns := ns) (rv := rv) (c := c) hns hnd
  have hbg := MV (f := nu ls ns) (bx := st.bx) (r := newB (nu ls ns) ns rv) (ls := ls) (lent := lent) (ch := ch) hll hln hch (fun c hc => (hng c).1 (hlsns c hc)) hlb
  have hblk : ∀ c k, Be st.bx (Ha (nu ls ns) ls lent ch (newB (nu ls ns) ns rv)) c = some k →
    (c ∉ ns ∧ c ∉ ls ∧ st.bx c = some k) ∨ (∃ m x, m < ns.length ∧ nm ns m = c ∧ rv[m]? = some x ∧ k = x.ren (nu ls ns)) ∨ (∃ m x, m < ls.length ∧ nm ls m = c ∧ lent[m]? = some x ∧ k = x.2.ren (nu ls ns)) := by
   intro c k hc
   by_cases hm : c ∈ ls
   ·obtain ⟨m, hm1, hm2⟩ := Jr hm
    have hlx : lent[m]? = some (lent[m]'(by omega)) := by simp [show m < lent.length from by omega]
    have := hbg.2 m _ hlx
    rw [hm2, hc] at this
    exact .inr (.inr ⟨m, _, hm1, hm2, hlx, by simpa using this⟩)
   ·rw [hbg.1 c hm] at hc
    by_cases hm2 : c ∈ ns
    ·obtain ⟨m, hm1, hm3⟩ := Jr hm2
     have hrx : rv[m]? = some (rv[m]'(by omega)) := by simp [show m < rv.length from by omega]
     have := (hng c).2 m _ hrx
     rw [hm3, hc] at this
     exact .inr (.inl ⟨m, _, hm1, hm3, hrx, by simpa using this⟩)
    ·rw [(hng c).1 hm2] at hc; exact .inl ⟨hm2, hm, hc⟩
  have hdom : ∀ b, G6 lent.length rv.length b = true → (Be st.bx (Ha (nu ls ns) ls lent ch (newB (nu ls ns) ns rv)) (nu ls ns b)).isSome = true := by
   intro b hb
   unfold G6 at hb
   split at hb
   ·rename_i h
    obtain ⟨k, _, rfl⟩ := HY h
    rw [zF4] at hb
    have hk : k < lent.length := by omega
    rw [F4 (by omega), hbg.2 k _ (show lent[k]? = some lent[k] by simp [hk])]; rfl
   ·rename_i h
    rw [zF4] at hb
    have hni : nm ns b ∉ ls := fun hm => hlsns _ hm (D4 (by omega))
    rw [KD (by omega), hbg.1 _ hni, (hng (nm ns b)).2 b _ (show rv[b]? = some rv[b] by simp [hb])]; rfl
  have hren : ∀ l : List Nat, Gq lent.length rv.length l = true → ∀ b, b ∈ l → G6 lent.length rv.length b = true := fun l h b hb => zA2.1 h b hb
  have hrenB : ∀ (k : Bj) b, b ∈ (k.ren (nu ls ns)).names → ∃ b0, b0 ∈ k.names ∧ b = nu ls ns b0 := by
   intro k b hb
   cases k with
   | box cs =>
    obtain ⟨c, hc, hb⟩ := A4.1 hb
    obtain ⟨c0, h0, rfl⟩ := zD8.1 hc
    obtain ⟨b0, h1, h2⟩ := Hy hb
    exact ⟨b0, A4.2 ⟨c0, h0, h1⟩, h2⟩
   | vec e rows => cases hb
   | mp es => cases hb
   | dvec e cols rs => cases hb
   | pvec n e cols rs => cases hb
   | hol e cols i0 k0 c rs => exact ⟨c, by simp [Bj.names], by simpa [Bj.ren, Bj.names] using hb⟩
   | gone => cases hb
  have hhasN : ∀ m β, m < ns.length → (G2.has (nm ns m) β ↔ G'.has m β) := fun m β hm => by
   have hmd : G6 lent.length rv.length m = true := by
    unfold G6; rw [HN (show m < 90000 by omega) (zC5 _), if_neg (by simp), zF4]; omega
   have := hvia.has (β := β) hmd
   rwa [KD (by omega)] at this
  have key : Cu P X G2 ⟨st.env, Be st.bx (Ha (nu ls ns) ls lent ch (newB (nu ls ns) ns rv))⟩ a w' := by
   refine hs.frame (fun c hc => Jx hc) hext hwS ?_ ?_ ?_ ?_ ?_ ?_ (fun b hb => by
    have : b ∉ ns := fun hm => by rw [hndl.2 b hm] at hb; cases hb
    simp only [G2]; rw [if_neg this, if_neg this, if_neg this]; exact ⟨rfl, rfl, rfl⟩)
   ·intro c k hc
    rcases hblk c k hc with ⟨_, h0, h1⟩ | ⟨m, x, h1, h2, h3, h4⟩ | ⟨m, x, h1, h2, h3, h4⟩
    ·refine .inl ⟨h1, fun β hr hβ => hbel.block β (hs.at_ok c k β h1 hr hβ).2.1 fun hL => ?_⟩
     obtain ⟨j, hj, hg⟩ := hnotL β hL
     exact h0 ((hs.at_inj _ _ _ _ β h1 (hlk j hj).1 hr (hlk j hj).2 hβ hg) ▸ D4 (by omega))
    ·subst h4
     have hmd : G6 lent.length rv.length m = true := by
      unfold G6; rw [HN (show m < 90000 by omega) (zC5 _), if_neg (by simp), zF4]; omega
     have hxn := hren _ (zA2.1 hnmV x (lM h3))
     refine .inr ⟨?_, fun c' hc' => ?_⟩
     ·have := (hvec m x h3).ren hvia hmd hxn
      rwa [KD (by omega), h2] at this
     ·obtain ⟨b0, hb0, rfl⟩ := hrenB x c' hc'
      exact hdom b0 (hxn b0 hb0)
    ·subst h4
     have hmd : G6 lent.length rv.length (90000 + m) = true := by
      unfold G6; rw [He (by omega), if_pos rfl, zF4]; omega
     have hxn := hren _ (zA2.1 hnmL x (lM h3))
     refine .inr ⟨?_, fun c' hc' => ?_⟩
     ·have := (hpost m x h3).ren hvia hmd hxn
      rwa [F4 (by omega), h2] at this
     ·obtain ⟨b0, hb0, rfl⟩ := hrenB x.2 c' hc'
      exact hdom b0 (hxn b0 hb0)
   ·intro c k β hc hr hβ
    rcases hblk c k hc with ⟨h0, _, h1⟩ | ⟨m, x, h1, h2, h3, h4⟩ | ⟨m, x, h1, h2, h3, h4⟩
    ·have hβ := (hext.has (by rw [h1]; rfl)).1 hβ
     have := hs.at_ok c k β h1 hr hβ
     refine ⟨this.1, by omega, fun h => ?_⟩
     rcases hS2 β h with h | h
     ·exact this.2.2 h
     ·omega
    ·rw [← h2, hhasN m β h1] at hβ
     have := hvat m β (by omega) hβ
     exact ⟨.new (by omega), this.2.1, this.2.2⟩
    ·subst h2
     have h5 := hlk m (by omega)
     have hβ := (hext.has (by rw [h5.1]; rfl)).1 hβ
     have := hs.at_ok _ _ β h5.1 h5.2 hβ
     refine ⟨this.1, by omega, hlS m β (by omega) ?_⟩
     have h6 := hsame m (by omega)
     unfold Gh.has at hβ ⊢
     rw [h6.1, h6.2.2]
     simp only [Gc]; rw [F4 (by omega)]; exact hβ
   ·intro c c' k k' β hc hc' hr hr' hβ hβ'
    have old : ∀ c k, Be st.bx (Ha (nu ls ns) ls lent ch (newB (nu ls ns) ns rv)) c = some k → k.real = true → G2.has c β → (∃ k0, st.bx c = some k0 ∧ k0.real = true ∧ G.has c β) ∨ ∃ m, m < ns.length ∧ nm ns m = c ∧ G'.has m β := by
     intro c k hc hr hβ
     rcases hblk c k hc with ⟨h0, _, h1⟩ | ⟨m, x, h1, h2, h3, h4⟩ | ⟨m, x, h1, h2, h3, h4⟩
     ·exact .inl ⟨k, h1, hr, (hext.has (by rw [h1]; rfl)).1 hβ⟩
     ·rw [← h2, hhasN m β h1] at hβ
      exact .inr ⟨m, h1, h2, hβ⟩
     ·subst h2
      have h5 := hlk m (by omega)
      exact .inl ⟨_, h5.1, h5.2, (hext.has (by rw [h5.1]; rfl)).1 hβ⟩
    rcases old c k hc hr hβ with ⟨k0, h1, h2, h3⟩ | ⟨m, h1, h2, h3⟩ <;> rcases old c' k' hc' hr' hβ' with ⟨k0', h1', h2', h3'⟩ | ⟨m', h1', h2', h3'⟩
    ·exact hs.at_inj c c' k0 k0' β h1 h1' h2 h2' h3 h3'
    ·have h5 := hvat m' β (by omega) h3'
     have h6 := (hs.at_ok c k0 β h1 h2 h3).2.1
     omega
    ·have h5 := hvat m β (by omega) h3
     have h6 := (hs.at_ok c' k0' β h1' h2' h3').2.1
     omega
    ·have := hvinj m m' β (by omega) (by omega) h3 h3'
     rw [← h2, ← h2', this]
   ·intro β h
    rcases hS2 β h with h | h
    ·have := hs.S_lt β h; omega
    ·exact h.2
   ·intro β h
    rcases hS2 β h with h | h
    ·exact hs.S_src β h
    ·exact .inr (by omega)
   ·refine hs.below.trans ⟨hbel.os, hbel.tape, hbel.output, hbel.size, hbel.drawn, fun k hk hnl => hbel.block k (by omega) fun hL => ?_⟩
    obtain ⟨j, hj, hg⟩ := hnotL k hL
    rcases (hs.at_ok _ _ k (hlk j hj).1 (hlk j hj).2 hg).1.2 with h | h
    ·omega
    ·exact hnl h
  refine hK _ _ ⟨G2, key.put (some s) (some (res.ren (nu ls ns))) v (by intro t e; cases e; exact hn) ?_⟩
  rintro d ⟨⟩
  refine ⟨hres'.ren hvia (hren _ hnmR), fun b hb => ?_⟩
  obtain ⟨b0, h1, h2⟩ := Hr hb
  rw [h2]
  exact hdom b0 (hren _ hnmR b0 h1)
theorem Fy {f s : Nat} {xs : List Operand} {ds0 ds : List D} {lent : List (Bj × Bj)} {rv : List Bj} {res : D} {ts : Array TypeId} (ls ns : List Nat) (ch : List Bool) (hc : DG P f ds lent rv res) (hat : At st.env ops i X.n (.call ⟨.value (.func f), xs.toArray, ts⟩) s gs)
  (hf : Az P f = true) (hl : xs.length = ds0.length) (hx : D1 st.env (FN xs ds0)) (hds : ds0.map D.nrm = ds.map (D.ren (nu ls ns)))
  (hll : ls.length = lent.length) (hln : ls.Nodup) (hlb : Gi st.bx (Mg (nu ls ns) ls lent)) (hns : ns.length = rv.length) (hndl : ID ns) (hnew : JA st.bx ns) (hch : Qm lent ch)
  (hlim : (zF2 lent.length 1000 && zF2 rv.length 1000) = true) (hre : (lent.all fun x => x.1.real && x.2.real) = true)
  (hnm : (Gq lent.length rv.length res.names && (lent.all fun x => Gq lent.length rv.length x.2.names) && rv.all fun x => Gq lent.length rv.length x.names) = true)
  (next : A6 P X ops dr Q r (i + 1) (B5.upd ⟨gs ++ FN xs ds0, Mg (nu ls ns) ls lent, some s, some (res.ren (nu ls ns)), Ha (nu ls ns) ls lent ch (newB (nu ls ns) ns rv), ns⟩ st) ((i, ⟨gs ++ FN xs ds0, Mg (nu ls ns) ls lent, some s, some (res.ren (nu ls ns)), Ha (nu ls ns) ls lent ch (newB (nu ls ns) ns rv), ns⟩) :: log)) : A6 P X ops dr Q (r + 1) i st log := by
 obtain ⟨o, ho, hop, hd, hn, hg, hgp⟩ := hat.out
 exact A6.step next ⟨Aj.2 ⟨hgp, hx⟩, hlb, hnew⟩ (Rm ls ns ch hc hat hf hl hds hll hln hns hndl hch hlim hre hnm)
end run
end Go.Lift
namespace Go.Lift
open Go.RowKit
variable {P : Program} {X : Gt} {ops : Array Oper}
def Od {α : Type} (xs : List α) (q : Nat) (ys : List α) : List α := xs.take q ++ ys ++ xs.drop (q + ys.length)
theorem LV {α : Type} {xs ys : List α} {q : Nat} (h : q + ys.length ≤ xs.length) : (Od xs q ys).length = xs.length := by
 unfold Od; simp; omega
theorem Qo {α : Type} {xs ys : List α} {q : Nat} (h : q + ys.length ≤ xs.length) (i : Nat) : (Od xs q ys)[i]? = if q ≤ i ∧ i < q + ys.length then ys[i - q]? else xs[i]? := by
 unfold Od
 by_cases h1 : i < q
 ·rw [if_neg (by omega), zJ1, zD3 (by simp; omega), zB8 h1]
 ·by_cases h2 : i < q + ys.length
  ·rw [if_pos (by omega), zD3 (by simp; omega), zC9 (by simp; omega)]
   congr 1; simp; omega
  ·rw [if_neg (by omega), zC9 (by simp; omega), zD6]
   congr 1; simp; omega
theorem Ta {α β : Type} (f : α → β) (xs ys : List α) (q : Nat) : Od (xs.map f) q (ys.map f) = (Od xs q ys).map f := by
 unfold Od; simp
inductive Mk : D → Nat → Nat → List (List T) → Nat → Nat → Prop where
 | own (b e : Nat) (rows : List (List T)) : Mk (.e (.one (.own b))) b e rows 0 rows.length
 | view (b e : Nat) (rows : List (List T)) (lo len : Nat) (h : lo + len ≤ rows.length) : Mk (.e (.one (.view b e lo len))) b e rows lo len
inductive OL : D → List (Nat × Bj) → Nat → List (List T) → Prop where
 | of {d : D} {rb : List (Nat × Bj)} {e : Nat} {rows : List (List T)} (h : UN d rb e rows) : OL d rb e rows
 | view (b e : Nat) (rows : List (List T)) (lo len : Nat) (h : lo + len ≤ rows.length) : OL (.e (.one (.view b e lo len))) [(b, .vec e rows)] e ((rows.drop lo).take len)
theorem QQ (q : Addr) : q.add 0 = q := by unfold Addr.add; simp
theorem Pp {G : Gh} {w : World} {b e : Nat} {rows : List (List T)} (h : DV P w G b (.vec e rows)) : ∃ a cap, G.hd b = .slice a rows.length cap ∧ rows.length ≤ cap ∧
  (0 < cap → ∃ β arr el, a = some ⟨β, 0, none⟩ ∧ G.loc b = some β ∧ w.heap[β]? = some (.cells arr el (0, 0)) ∧ arr.size = cap * e ∧ AR w G.S arr e 0 rows) := by
 rcases h with ⟨a, h1, h2, _⟩ | ⟨β, cap, arr, el, h0, h1, h2, h3, h4, h5, h6⟩
 ·subst h2; exact ⟨a, 0, h1, zC5 _, fun h => by cases h⟩
 ·exact ⟨_, cap, h1, h3, fun _ => ⟨β, arr, el, rfl, h0, h2, h4, by rw [h4, zA4]; exact zA3 e h3, h5, fun i row j t hi hj => by rw [zA4]; exact h6 i row j t hi hj⟩⟩
section run
variable {dr : Bool} {Q : St → Prop} {r i : Nat} {st : St} {log : List (Nat × B5)} {o : Oper} {gs : List (Operand × D)}
theorem Cu.dstV {G : Gh} {a : Act} {w : World} (hs : Cu P X G st a w) {x : Operand} {d : D} {b e lo len : Nat} {rows : List (List T)} (hx : Lift.opd st.env x = some d) (h : Mk d b e rows lo len) (hb : st.bx b = some (.vec e rows)) :
  ∃ p cap', a.eval x = .slice p len cap' ∧ rows.length - lo ≤ cap' ∧ lo + len ≤ rows.length ∧
   (lo < rows.length → ∃ β cap arr el, G.loc b = some β ∧ G.hd b = .slice (some ⟨β, 0, none⟩) rows.length cap ∧ rows.length ≤ cap ∧ p = some ⟨β, lo * e, none⟩ ∧ w.heap[β]? = some (.cells arr el (0, 0)) ∧ arr.size = cap * e ∧ AR w G.S arr e 0 rows) := by
 obtain ⟨a0, cap, h1, h2, h3⟩ := Pp (hs.blk b _ hb)
 have hR := hs.opd hx
 cases h with
 | own =>
  obtain ⟨hR, _⟩ : Ej P w G (a.eval x) (.own b) := hR
  refine ⟨a0, cap, hR.trans h1, by omega, by omega, fun hlt => ?_⟩
  obtain ⟨β, arr, el, g1, g2, g3, g4, g5⟩ := h3 (by omega)
  subst g1
  exact ⟨β, cap, arr, el, g2, h1, h2, by simp, g3, g4, g5⟩
 | view _ _ _ _ _ h =>
  obtain ⟨a1, n1, cap1, p, k1, k2, k3, k4⟩ : Ej P w G (a.eval x) (.view b e lo len) := hR
  rw [h1] at k1
  cases k1
  refine ⟨p, cap - lo, k3, by omega, h, fun hlt => ?_⟩
  obtain ⟨β, arr, el, g1, g2, g3, g4, g5⟩ := h3 (by omega)
  subst g1
  refine ⟨β, cap, arr, el, g2, h1, h2, ?_, g3, g4, g5⟩
  rw [k4 (by omega)]
  simp [Addr.add_mk]
theorem Cu.srcW {G : Gh} {a : Act} {w : World} (hs : Cu P X G st a w) {x : Operand} {d : D} {rb : List (Nat × Bj)} {e : Nat} {rows : List (List T)} (hx : Lift.opd st.env x = some d) (h : OL d rb e rows) (hb : Gi st.bx rb) :
  ∃ p cap, a.eval x = .slice p rows.length cap ∧ (rows = [] ∨ ∃ β off arr el fz, p = some ⟨β, off, none⟩ ∧ w.heap[β]? = some (.cells arr el fz) ∧ AR w G.S arr e off rows) := by
 cases h with
 | of h =>
  have hR := hs.opd hx
  cases h with
  | own b e rows =>
   obtain ⟨hR, _⟩ : Ej P w G (a.eval x) (.own b) := hR
   obtain ⟨a0, cap, h1, h2, h3⟩ := Pp (hs.blk b _ hb.1)
   refine ⟨a0, cap, hR.trans h1, ?_⟩
   cases rows with
   | nil => exact .inl rfl
   | cons y ys =>
    obtain ⟨β, arr, el, g1, g2, g3, g4, g5⟩ := h3 (by simp at h2; omega)
    exact .inr ⟨β, 0, arr, el, (0, 0), g1, g3, g5⟩
  | sl e rows hrow =>
   have hR : Cs w G.S (a.eval x) (.sl rows) := hR
   generalize a.eval x = v at hR
   cases hR with
   | nil a' cap => exact ⟨_, _, rfl, .inl rfl⟩
   | sl β off cap e' arr el' fz rows h1 h2 h3 h4 h5 h6 =>
    refine ⟨_, _, rfl, ?_⟩
    cases rows with
    | nil => exact .inl rfl
    | cons r0 rs =>
     have he : e' = e := by rw [← hrow 0 r0 rfl]; exact (h5 0 r0 rfl).symm
     subst he
     exact .inr ⟨β, off, arr, el', fz, rfl, h2, h4, h5, h6⟩
  | nil e =>
   have hR : Cs w G.S (a.eval x) .nil0 := hR
   generalize a.eval x = v at hR
   cases hR with
   | nil0 a' => exact ⟨_, _, rfl, .inl rfl⟩
 | view b _ rows lo len h =>
  obtain ⟨p, cap', h1, h2, h3, h4⟩ := hs.dstV hx (.view b e rows lo len h) hb.1
  have hlen : ((rows.drop lo).take len).length = len := by simp; omega
  refine ⟨p, cap', by rw [hlen]; exact h1, ?_⟩
  by_cases hz : len = 0
  ·exact .inl (by rw [hz, List.take_zero])
  ·obtain ⟨β, cap, arr, el, g1, g2, g3, g4, g5, g6, g7⟩ := h4 (by omega)
   refine .inr ⟨β, lo * e, arr, el, (0, 0), g4, g5, ?_, ?_, ?_⟩
   ·rw [hlen, g6, ← zB4]; exact zA3 e (by omega)
   ·intro i row hi
    have := AA hi
    rw [hlen] at this
    rw [zB8 this, zD6] at hi
    exact g7.2.1 _ row hi
   ·intro i row j t hi hj
    have := AA hi
    rw [hlen] at this
    rw [zB8 this, zD6] at hi
    have := g7.2.2 _ row j t hi hj
    rwa [zA4, zB4] at this
theorem AR.take {w : World} {S : Nat → Prop} {arr : Array Value} {e off n : Nat} {rows : List (List T)} (h : AR w S arr e off rows) : AR w S arr e off (rows.take n) := by
 refine ⟨?_, ?_, ?_⟩
 ·have := h.1
  have h2 : (rows.take n).length * e ≤ rows.length * e := zA3 e (by simp; omega)
  omega
 ·intro i row hi
  have := AA hi
  simp at this
  rw [zB8 (by omega)] at hi
  exact h.2.1 i row hi
 ·intro i row j t hi hj
  have := AA hi
  simp at this
  rw [zB8 (by omega)] at hi
  exact h.2.2 i row j t hi hj
theorem Nl {w : World} {S : Nat → Prop} {p : Option Addr} {len cap e n : Nat} {rows : List (List T)} (hn : n ≤ rows.length) (h : rows = [] ∨ ∃ β off arr el fz, p = some ⟨β, off, none⟩ ∧ w.heap[β]? = some (.cells arr el fz) ∧ AR w S arr e off rows) :
  ∃ news, (Builtin.firstCells e n (.slice p len cap)).run P w = .ok news w ∧ AR w S news e 0 (rows.take n) ∧ news.size = n * e := by
 rcases h with h | ⟨β, off, arr, el, fz, h1, h2, h3⟩
 ·subst h
  have : n = 0 := by simpa using hn
  subst this
  obtain ⟨news, k1, k2, k3⟩ := D7 (P := P) (w := w) (a := p) (len := len) (cap := cap) (e := e) (S := S)
  exact ⟨news, k1 w rfl, by simpa using k2, by simpa using k3⟩
 ·subst h1
  have hl : (rows.take n).length = n := by simp; omega
  obtain ⟨news, k1, k2, k3⟩ := Em (P := P) (len := len) (cap := cap) h2 (h3.take (n := n))
  rw [hl] at k1 k3
  exact ⟨news, k1 w rfl, k2, k3⟩
theorem Sr {G : Gh} {w : World} {b e β cap q : Nat} {rows rows2 : List (List T)} {arr news : Array Value} {el : TypeId} (hlt : β < w.heap.size) (hnS : ¬ G.S β) (h0 : G.loc b = some β) (h1 : G.hd b = .slice (some ⟨β, 0, none⟩) rows.length cap) (h3 : rows.length ≤ cap) (h4 : arr.size = cap * e) (h5 : AR w G.S arr e 0 rows)
  (hn : AR w G.S news e 0 rows2) (hns : news.size = rows2.length * e) (hq : q + rows2.length ≤ rows.length) :
  DV P (CC w β (.cells (D3 arr (q * e) news.toList) el (0, 0))) G b (.vec e (Od rows q rows2)) := by
 have hle : q * e + rows2.length * e ≤ cap * e := by rw [← zB4]; exact zA3 e (by omega)
 have hS : ∀ γ, G.S γ → (CC w β (.cells (D3 arr (q * e) news.toList) el (0, 0))).heap[γ]? = w.heap[γ]? := fun γ hγ => by
  rw [BU, if_neg (fun (h : γ = β ∧ β < w.heap.size) => hnS (h.1 ▸ hγ))]
 have hrl : ∀ (i : Nat) (row : List T), (Od rows q rows2)[i]? = some row → row.length = e := by
  intro i row hi
  rw [Qo hq] at hi
  split at hi
  ·exact hn.2.1 _ row hi
  ·exact h5.2.1 _ row hi
 refine .inr ⟨β, cap, D3 arr (q * e) news.toList, el, h0, by rw [LV hq]; exact h1, by rw [BU, if_pos ⟨rfl, hlt⟩], by rw [LV hq]; exact h3, by rw [DR, h4], hrl, ?_⟩
 intro i row j t hi hj
 have hj' := AA hj
 have hre := hrl i row hi
 rw [Qo hq] at hi
 rw [C5 _ _ _ _ (by simp; omega)]
 simp only [zE1, hns]
 split at hi
 ·rename_i hin
  have hle2 : (i - q) * e + e ≤ rows2.length * e := by rw [← zC1]; exact zA3 e (by omega)
  have hsp : i * e = q * e + (i - q) * e := by rw [← zB4]; congr 1; omega
  rw [if_pos (by omega)]
  have := hn.2.2 _ row j t hi hj
  rw [zA4] at this
  have h6 : (news.toList[i * e + j - q * e]?).getD undef = Ap news ((i - q) * e + j) := by
   rw [show i * e + j - q * e = (i - q) * e + j from by omega]
   unfold Ap; simp
  rw [h6]
  exact this.mono hS fun _ h => h
 ·rename_i hin
  rw [if_neg]
  ·have := h5.2.2 _ row j t hi hj
   rw [zA4] at this
   exact this.mono hS fun _ h => h
  ·rintro ⟨k1, k2⟩
   by_cases hiq : i < q
   ·have : i * e + e ≤ q * e := by rw [← zC1]; exact zA3 e hiq
    omega
   ·have : q * e + rows2.length * e ≤ i * e := by rw [← zB4]; exact zA3 e (by omega)
    omega
theorem Sy {x : Operand} {t el s e l h b lo0 len : Nat} {lo hi : Option Operand} {rl rh : List (Operand × D)} {rows : List (List T)} {d : D} (hat : At st.env ops i X.n (.slice t x lo hi none) s gs)
  (hx : opd st.env x = some d) (hD : Mk d b e rows lo0 len) (hb : st.bx b = some (.vec e rows)) (ht : sliceB P t el = true) (he : Gb P el e = true) (hlo : Pm lo 0 l rl) (hhi : Pm hi len h rh) (h1 : D1 st.env rl) (h2 : D1 st.env rh) (hlh : l ≤ h) (hhl : lo0 + h ≤ rows.length)
  (next : A6 P X ops dr Q r (i + 1) (B5.upd ⟨gs ++ ((x, d) :: (rl ++ rh)), [(b, .vec e rows)], some s, some (.e (.one (.view b e (lo0 + l) (h - l)))), [], []⟩ st) ((i, ⟨gs ++ ((x, d) :: (rl ++ rh)), [(b, .vec e rows)], some s, some (.e (.one (.view b e (lo0 + l) (h - l)))), [], []⟩) :: log)) : A6 P X ops dr Q (r + 1) i st log := by
 obtain ⟨o, ho, hop, hd, hn, hg, hgp⟩ := hat.out
 refine A6.step next ⟨Aj.2 ⟨hgp, hx, Aj.2 ⟨h1, h2⟩⟩, ⟨hb, trivial⟩, trivial⟩ (LR.value ho hg rfl hd.symm (CV hd hn) ?_)
 intro G st a w hs hpre
 obtain ⟨hx, h12⟩ := (Aj.1 hpre.r).2
 obtain ⟨h1, h2⟩ := Aj.1 h12
 have hb := hpre.b.1
 -- the header of the whole
 obtain ⟨a0, cap, k1, k2, k3⟩ := Pp (hs.blk b _ hb)
 have hv : ∃ p, a.eval x = .slice p len (cap - lo0) ∧ lo0 + len ≤ rows.length ∧ (lo0 < cap → p = a0.map fun q => q.add (lo0 * e)) := by
  have hR := hs.opd hx
  cases hD with
  | own =>
   obtain ⟨hR, _⟩ : Ej P w G (a.eval x) (.own b) := hR
   exact ⟨a0, hR.trans k1, by omega, fun _ => by cases a0 <;> simp [QQ]⟩
  | view _ _ _ _ _ h' =>
   obtain ⟨a1, n1, cap1, p, g1, g2, g3, g4⟩ : Ej P w G (a.eval x) (.view b e lo0 len) := hR
   rw [k1] at g1; cases g1
   exact ⟨p, g3, h', g4⟩
 obtain ⟨p, hv1, hv2, hv3⟩ := hv
 refine ⟨.slice (if cap - lo0 = l then p else p.map (·.add (l * e))) (h - l) (cap - lo0 - l), w, G, ?_, hs, ?_⟩
 ·simp only [execOp, hop]
  refine Af (a := .slice (if cap - lo0 = l then p else p.map (·.add (l * e))) (h - l) (cap - lo0 - l)) (w1 := w) ?_ rfl
  rw [hv1]
  exact IC (a := a) hs ht he hlo hhi h1 h2 hlh (by omega)
 ·rintro d' ⟨⟩
  refine ⟨⟨a0, rows.length, cap, _, k1, by omega, by rw [show cap - lo0 - l = cap - (lo0 + l) from by omega], fun hlt => ?_⟩, fun b' hb' => ?_⟩
  ·rw [if_neg (by omega), hv3 (by omega)]
   obtain ⟨β, arr, el', g1, _⟩ := k3 (by omega)
   subst g1
   simp only [zE5, Addr.add_mk, zB4, zA4]
  ·simp [D.names, E.names, C.names] at hb'
   subst hb'
   simp [Be, hb]
theorem IB {t t2 el e : Nat} {w : World} {p p2 : Option Addr} {dl dc n2 c2 : Nat} {news : Array Value} {ty : TypeId} (ht : sliceB P t el = true) (he : Gb P el e = true) (hnew : (Builtin.firstCells e (zD2 n2 dl) (.slice p2 n2 c2)).run P w = .ok news w) {w' : World}
  (hst : ∀ q, p = some q → (storeCells q news.toList).run P w = .ok () w') (hno : p = none → w' = w) : (Builtin.copy_ #[t, t2] ty #[.slice p dl dc, .slice p2 n2 c2]).run P w = .ok (goInt (zD2 n2 dl)) w' := by
 unfold sliceB at ht
 split at ht
 ·rename_i e' hu
  have : e' = el := by simpa using ht
  subst this
  unfold Builtin.copy_
  refine Af (AB hu w) ?_
  refine Af (a := n2) (w1 := w) rfl ?_
  refine Af (CW he w) ?_
  refine Af hnew ?_
  cases p with
  | none => rw [hno rfl]; rfl
  | some q => exact Af (hst q rfl) rfl
 ·cases ht
theorem U0 {x y : Operand} {t t2 el s e b lo len : Nat} {d d2 : D} {rb2 : List (Nat × Bj)} {rows rows2 rows' : List (List T)} (hat : At st.env ops i X.n (.call ⟨.builtin .copy, #[x, y], #[t, t2]⟩) s gs)
  (hx : opd st.env x = some d) (hD : Mk d b e rows lo len) (hb : st.bx b = some (.vec e rows)) (hy : opd st.env y = some d2) (hS : OL d2 rb2 e rows2) (hb2 : Gi st.bx rb2) (ht : sliceB P t el = true) (he : Gb P el e = true) (hr : Od rows lo (rows2.take (zD2 rows2.length len)) = rows')
  (next : A6 P X ops dr Q r (i + 1) (B5.upd ⟨gs ++ [(x, d), (y, d2)], (b, .vec e rows) :: rb2, some s, some (vD (goInt (zD2 rows2.length len))), [(b, .vec e rows')], []⟩ st) ((i, ⟨gs ++ [(x, d), (y, d2)], (b, .vec e rows) :: rb2, some s, some (vD (goInt (zD2 rows2.length len))), [(b, .vec e rows')], []⟩) :: log)) : A6 P X ops dr Q (r + 1) i st log := by
 obtain ⟨o, ho, hop, hd, hn, hg, hgp⟩ := hat.out
 refine A6.step next ⟨Aj.2 ⟨hgp, hx, hy, trivial⟩, ⟨hb, hb2⟩, trivial⟩ (LR.value ho hg rfl hd.symm (CV hd hn) ?_)
 intro G st a w hs hpre
 obtain ⟨hx, hy, _⟩ := (Aj.1 hpre.r).2
 obtain ⟨hb, hb2⟩ := hpre.b
 subst hr
 obtain ⟨p, cap', h1, h2, h3, h4⟩ := hs.dstV hx hD hb
 obtain ⟨p2, cap2, k1, k2⟩ := hs.srcW hy hS hb2
 have hmin : zD2 rows2.length len ≤ rows2.length := Nat.min_le_left _ _
 have hmin2 : zD2 rows2.length len ≤ len := Nat.min_le_right _ _
 obtain ⟨news, n1, n2, n3⟩ := Nl (P := P) (len := rows2.length) (cap := cap2) hmin k2
 have hl2 : (rows2.take (zD2 rows2.length len)).length = zD2 rows2.length len := by rw [zH6]; exact Nat.min_eq_left hmin
 have hrun : ∀ w', (∀ q, p = some q → (storeCells q news.toList).run P w = .ok () w') → (p = none → w' = w) → (execOp a.eval o).run P w = .ok (.value (goInt (zD2 rows2.length len))) w' := fun w' g1 g2 => by
  simp only [execOp, hop]
  refine Gu fun cs => ?_
  simp only [zH5, zC4, zJ0, builtin, h1, k1]
  exact Af (IB ht he n1 g1 g2) rfl
 have fin : ∀ d', some (vD (goInt (zD2 rows2.length len))) = some d' → ∀ w' (G' : Gh), FG P w' G' (goInt (zD2 rows2.length len)) d' ∧ ∀ c, c ∈ d'.names → (Be st.bx [(b, .vec e (Od rows lo (rows2.take (zD2 rows2.length len))))] c).isSome = true := fun d' hd' w' G' => by
  cases hd'; exact ⟨.val _ rfl, fun c hc => by cases hc⟩
 by_cases hlt : lo < rows.length
 ·obtain ⟨β, cap, arr, el', g1, g2, g3, g4, g5, g6, g7⟩ := h4 hlt
  subst g4
  have hat := hs.at_ok b _ β hb rfl (.inl g1)
  have hle : lo * e + zD2 rows2.length len * e ≤ arr.size := by rw [g6, ← zB4]; exact zA3 e (by omega)
  have hst := CX (P := P) (β := β) (el := el') news.toList w (lo * e) 0 arr g5 (by simp [n3]; omega) (AR.ones n2 (by rw [n3, hl2]))
  rw [zE8] at hst
  refine ⟨_, _, G, hrun _ (fun q hq => by cases hq; exact hst) (fun h => by cases h), ?_, fun d' hd' => fin d' hd' _ _⟩
  exact hs.setB (b := b) (k0 := .vec e rows) hb rfl rfl (.inl g1) (Sr hat.2.1 hat.2.2 g1 g2 g3 g6 g7 n2 (by rw [n3, hl2]) (by rw [hl2]; omega)) (fun c hc => by cases hc)
 ·have hz : zD2 rows2.length len = 0 := by omega
  have hn0 : news.toList = [] := zE2 (by simp [n3, hz])
  have hsp : Od rows lo (rows2.take (zD2 rows2.length len)) = rows := by
   have : lo = rows.length := by omega
   rw [hz]; unfold Od; simp [this]
  refine ⟨_, w, G, hrun w (fun q _ => by rw [hn0]; rfl) (fun _ => rfl), ?_, fun d' hd' => fin d' hd' _ _⟩
  have : (⟨st.env, Be st.bx [(b, .vec e (Od rows lo (rows2.take (zD2 rows2.length len))))]⟩ : St) = st := by
   refine St.ext (fun _ => rfl) fun c => ?_
   simp only [Be]
   split
   ·rename_i e1; rw [e1, hsp, hb]
   ·rfl
  rw [this]; exact hs
end run
end Go.Lift
namespace Go.Lift
open Go.RowKit
variable {P : Program} {X : Gt} {ops : Array Oper}
def SC (a b : Int) : Int := if b < a then b else a
def TS (b : ByteArray) (i : Int) : Option Int := if 0 ≤ i then (b[i.toNat]?).map fun x => (x.toNat : Int) else none
theorem QW {β : Type} {b : ByteArray} {i : Int} {f : Int → Option β} {r : β} (h : (TS b i).bind f = some r) : ∃ x : UInt8, 0 ≤ i ∧ b[i.toNat]? = some x ∧ f (x.toNat : Int) = some r := by
 obtain ⟨x, h1, h2⟩ := bind_some h
 unfold TS at h1
 split at h1
 ·rename_i h0
  cases hx : b[i.toNat]? with
  | none => rw [hx] at h1; cases h1
  | some y => rw [hx] at h1; cases h1; exact ⟨y, h0, rfl, h2⟩
 ·cases h1
section run
variable {dr : Bool} {Q : St → Prop} {r i : Nat} {st : St} {log : List (Nat × B5)} {o : Oper} {gs : List (Operand × D)}
theorem VF {x y : Operand} {t t2 s : Nat} {k k2 : IntKind} {a0 b0 : Int} (hat : At st.env ops i X.n (.call ⟨.builtin .min, #[x, y], #[t, t2]⟩) s gs)
  (hx : opd st.env x = some (vD (.int k a0))) (hy : opd st.env y = some (vD (.int k2 b0)))
  (next : A6 P X ops dr Q r (i + 1) (B5.upd ⟨gs ++ [(x, vD (.int k a0)), (y, vD (.int k2 b0))], [], some s, some (vD (.int k (SC a0 b0))), [], []⟩ st) ((i, ⟨gs ++ [(x, vD (.int k a0)), (y, vD (.int k2 b0))], [], some s, some (vD (.int k (SC a0 b0))), [], []⟩) :: log)) : A6 P X ops dr Q (r + 1) i st log := by
 obtain ⟨o, ho, hop, hd, hn, hg, hgp⟩ := hat.out
 refine A6.step next ⟨Aj.2 ⟨hgp, hx, hy, trivial⟩, trivial, trivial⟩ (LR.value ho hg rfl hd.symm (CV hd hn) ?_)
 intro G st a w hs hpre
 obtain ⟨hx, hy, _⟩ := (Aj.1 hpre.r).2
 have h1 : a.eval x = .int k a0 := CF (hs.opd hx : Cs w G.S (a.eval x) (.val _))
 have h2 : a.eval y = .int k2 b0 := CF (hs.opd hy : Cs w G.S (a.eval y) (.val _))
 refine ⟨.int k (SC a0 b0), w, G, ?_, hs, ?_⟩
 ·simp only [execOp, hop]
  refine Gu fun cs => ?_
  simp only [zH5, zC4, zJ0, builtin, h1, h2]
  rfl
 ·rintro d ⟨⟩
  exact ⟨.val _ rfl, fun b hb => by cases hb⟩
theorem PV {x : Operand} {s b k : Nat} (hat : At st.env ops i X.n (.nilCheck x) s gs) (hx : opd st.env x = some (.e (.one (.ptr b k))))
  (next : A6 P X ops dr Q r (i + 1) (B5.upd ⟨gs ++ [(x, .e (.one (.ptr b k)))], [], some s, some (.e (.one (.ptr b k))), [], []⟩ st) ((i, ⟨gs ++ [(x, .e (.one (.ptr b k)))], [], some s, some (.e (.one (.ptr b k))), [], []⟩) :: log)) : A6 P X ops dr Q (r + 1) i st log := by
 obtain ⟨o, ho, hop, hd, hn, hg, hgp⟩ := hat.out
 refine A6.step next ⟨Aj.2 ⟨hgp, hx, trivial⟩, trivial, trivial⟩ (LR.value ho hg rfl hd.symm (CV hd hn) ?_)
 intro G st a w hs hpre
 obtain ⟨hx, _⟩ := (Aj.1 hpre.r).2
 obtain ⟨β, hβ, hv⟩ : Ej P w G (a.eval x) (.ptr b k) := hs.opd hx
 refine ⟨.pointer (some ⟨β, k, none⟩), w, G, ?_, hs, ?_⟩
 ·simp only [execOp, hop, hv]; rfl
 ·rintro d ⟨⟩
  exact ⟨⟨β, hβ, rfl⟩, fun b' hb' => hs.opd_live hx b' hb'⟩
def K4 (P : Program) (t : TypeId) : Bool := match P.underlying t with | some .string => true | _ => false
theorem Ro {x y : Operand} {t s : Nat} {b : ByteArray} {k : IntKind} {n : Int} {c : UInt8} (hat : At st.env ops i X.n (.index t x y) s gs)
  (hx : opd st.env x = some (vD (.string b))) (hy : opd st.env y = some (vD (.int k n))) (ht : K4 P t = true) (h0 : 0 ≤ n) (hc : b[n.toNat]? = some c)
  (next : A6 P X ops dr Q r (i + 1) (B5.upd ⟨gs ++ [(x, vD (.string b)), (y, vD (.int k n))], [], some s, some (vD (.int .u8 (c.toNat : Int))), [], []⟩ st) ((i, ⟨gs ++ [(x, vD (.string b)), (y, vD (.int k n))], [], some s, some (vD (.int .u8 (c.toNat : Int))), [], []⟩) :: log)) : A6 P X ops dr Q (r + 1) i st log := by
 obtain ⟨o, ho, hop, hd, hn, hg, hgp⟩ := hat.out
 refine A6.step next ⟨Aj.2 ⟨hgp, hx, hy, trivial⟩, trivial, trivial⟩ (LR.value ho hg rfl hd.symm (CV hd hn) ?_)
 intro G st a w hs hpre
 obtain ⟨hx, hy, _⟩ := (Aj.1 hpre.r).2
 have h1 : a.eval x = .string b := CF (hs.opd hx : Cs w G.S (a.eval x) (.val _))
 have h2 : a.eval y = .int k n := CF (hs.opd hy : Cs w G.S (a.eval y) (.val _))
 refine ⟨.int .u8 (c.toNat : Int), w, G, ?_, hs, ?_⟩
 ·simp only [execOp, hop, h1, h2]
  refine Af (a := .int .u8 (c.toNat : Int)) (w1 := w) ?_ rfl
  unfold K4 at ht
  split at ht
  ·rename_i hu
   unfold Instr.index
   refine Af (a := (k, n)) (w1 := w) rfl ?_
   refine Af (AB hu w) ?_
   simp only [h0, if_true, hc]
   rfl
  ·cases ht
 ·rintro d ⟨⟩
  exact ⟨.val _ rfl, fun b hb => by cases hb⟩
end run
section maps
variable {K V : Type}
def Fz [BEq K] (k : K) : List (K × V) → Option V
 | [] => none
 | p :: r => if k == p.1 then some p.2 else Fz k r
def Iy [BEq K] (k : K) (v : V) : List (K × V) → List (K × V)
 | [] => [(k, v)]
 | p :: r => if k == p.1 then (k, v) :: r else p :: Iy k v r
def D5 (kv : K → Value) (vt : V → T) (m : List (K × V)) : List (Value × T) := m.map fun p => (kv p.1, vt p.2)
end maps
structure Pf {K : Type} [BEq K] (P : Program) (t : TypeId) (kv : K → Value) : Prop where
 ty : ∃ kt el kd, P.underlying t = some (.map kt el) ∧ P.underlying kt = some kd ∧ (∀ a b : K, Instr.sameNow kd (kv a) (kv b) = some (a == b)) ∧ (∀ (e : Bool) (n : Nat) (v : K) (w : World), (Instr.checkKey e (n + 1) kt (kv v)).run P w = .ok () w)
 same : ∀ a b : K, (a == b) = true → Instr.sameBits 10000 (kv b) (kv a) = true
theorem It {K V : Type} [BEq K] {kd : TypeDesc} {kv : K → Value} (h : ∀ a b : K, Instr.sameNow kd (kv a) (kv b) = some (a == b)) (k : K) : ∀ (m : List (K × V)) (es : List MapEntry) (i : Nat), es.length = m.length → (∀ (j : Nat) (p : K × V), m[j]? = some p → ∃ e : MapEntry, es[j]? = some e ∧ e.key = kv p.1) →
  (Fz k m = none ∧ Instr.findNow kd (kv k) es i = some none) ∨ ∃ j p e, m[j]? = some p ∧ es[j]? = some e ∧ (k == p.1) = true ∧ Fz k m = some p.2 ∧ Instr.findNow kd (kv k) es i = some (some (i + j, e.val)) ∧ (∀ v, Iy k v m = m.set j (k, v))
 | [], [], i, _, _ => .inl ⟨rfl, rfl⟩
 | p :: m, e :: es, i, hl, hp => by
  obtain ⟨e0, h0, h1⟩ := hp 0 p rfl
  simp at h0; subst h0
  have h2 := h k p.1
  by_cases hk : (k == p.1) = true
  ·refine .inr ⟨0, p, e, rfl, rfl, hk, ?_, ?_, fun v => ?_⟩
   ·simp only [Fz, hk, if_true]
   ·simp only [Instr.findNow, h1, h2, hk]; rfl
   ·simp only [Iy, hk, if_true]; rfl
  ·have hk' : (k == p.1) = false := by simpa using hk
   rcases It h k m es (i + 1) (by simpa using hl) (fun j q hq => hp (j + 1) q (by simpa using hq)) with ⟨g1, g2⟩ | ⟨j, q, e', g1, g2, g3, g4, g5, g6⟩
   ·refine .inl ⟨?_, ?_⟩
    ·simp only [Fz, hk']; exact g1
    ·simp only [Instr.findNow, h1, h2, hk']; exact g2
   ·refine .inr ⟨j + 1, q, e', by simpa using g1, by simpa using g2, g3, ?_, ?_, fun v => ?_⟩
    ·simp only [Fz, hk']; exact g4
    ·simp only [Instr.findNow, h1, h2, hk']; rw [g5]; simp [zF1, Nat.add_comm 1]
    ·simp only [Iy, hk']; rw [g6 v]; rfl
theorem Kw {K V : Type} [BEq K] (k : K) (v : V) : ∀ {m : List (K × V)}, Fz k m = none → Iy k v m = m ++ [(k, v)]
 | [], _ => rfl
 | p :: m, h => by
  simp only [Fz] at h
  split at h
  ·cases h
  ·rename_i hk
   simp only [Iy]; rw [if_neg hk, Kw k v h]; rfl
section run
variable {dr : Bool} {Q : St → Prop} {r i : Nat} {st : St} {log : List (Nat × B5)} {o : Oper} {gs : List (Operand × D)}
theorem Q3 {t s : Nat} (hat : At st.env ops i X.n (.makeMap t none) s gs) (hnew : st.bx s = none)
  (next : A6 P X ops dr Q r (i + 1) (B5.upd ⟨gs, [], some s, some (.e (.one (.mref s))), [(s, .mp [])], [s]⟩ st) ((i, ⟨gs, [], some s, some (.e (.one (.mref s))), [(s, .mp [])], [s]⟩) :: log)) : A6 P X ops dr Q (r + 1) i st log := by
 obtain ⟨o, ho, hop, hd, hn, hg, hgp⟩ := hat.out
 refine A6.step next ⟨hgp, trivial, hnew, trivial⟩ (LR.value (rs := []) ho hg (by simp) hd.symm (CV hd hn) ?_)
 intro G st a w hs hpre
 have hnew := hpre.n.1
 have key := hs.newB (.map #[] 0) s (.mp []) undef (hs.nl hn) hnew
  ⟨w.heap.size, #[], 0, by simp [Gh.set], by rw [C0, if_pos rfl], rfl, fun i x h => by simp at h⟩ (fun c hc => by cases hc)
 refine ⟨.map (some w.heap.size), _, _, ?_, key, ?_⟩
 ·simp only [execOp, hop]
  exact Af (a := .map (some w.heap.size)) (w1 := w.alloc (.map #[] 0)) rfl rfl
 ·rintro d ⟨⟩
  refine ⟨⟨w.heap.size, by simp [Gh.set], rfl⟩, fun b hb => ?_⟩
  simp [D.names, E.names, C.names] at hb
  subst hb; simp [Be]
theorem Cu.mpAt {G : Gh} {a : Act} {w : World} (hs : Cu P X G st a w) {x : Operand} {b : Nat} {es : List (Value × T)} (hx : Lift.opd st.env x = some (.e (.one (.mref b)))) (hb : st.bx b = some (.mp es)) :
  ∃ β arr clock, a.eval x = .map (some β) ∧ G.loc b = some β ∧ w.heap[β]? = some (.map arr clock) ∧ arr.size = es.length ∧ ∀ (i : Nat) (y : Value × T), es[i]? = some y → ∃ m : MapEntry, arr[i]? = some m ∧ m.key = y.1 ∧ Cs w G.S m.val y.2 := by
 obtain ⟨β, hβ, hv⟩ : Ej P w G (a.eval x) (.mref b) := hs.opd hx
 obtain ⟨β', arr, clock, h1, h2, h3, h4⟩ := hs.blk b _ hb
 rw [hβ] at h1; cases h1
 exact ⟨β, arr, clock, hv, hβ, h2, h3, h4⟩
theorem Ib {β : Nat} {arr : Array MapEntry} {clock : Nat} {w : World} (h : w.heap[β]? = some (.map arr clock)) : (getObj β).run P w = .ok (.map arr clock) w := by
 simp [getObj, Sem.run, h]
theorem LE {β : Nat} {arr : Array MapEntry} {clock : Nat} {o : Obj} {w : World} (h : w.heap[β]? = some (.map arr clock)) : (setObj β o).run P w = .ok () (CC w β o) := by
 simp [setObj, Sem.run, h, CC]
theorem Hs {K _V : Type} [BEq K] {kt : TypeId} {kd : TypeDesc} {kv : K → Value} {k : K} {es : List MapEntry} {r : Option (Nat × Value)} {w : World} (hu : P.underlying kt = some kd) (h : Instr.findNow kd (kv k) es 0 = some r) : (Instr.findKey kt (kv k) es).run P w = .ok r w := by
 unfold Instr.findKey
 refine Af (AB hu w) ?_
 rw [h]; rfl
inductive Qk (w : World) : Value → Array MapEntry → Prop where
 | nil : Qk w (.map none) #[]
 | here (β clock : Nat) (arr : Array MapEntry) (h : w.heap[β]? = some (.map arr clock)) : Qk w (.map (some β)) arr
theorem Pv {K V : Type} [BEq K] {t el : Nat} {c : Bool} {z x : Value} {kv : K → Value} {vt : V → T} {m : List (K × V)} {k : K} {dv v0 : V} {w : World} {S : Nat → Prop} {arr : Array MapEntry} (h3 : Qk w x arr) (h4 : arr.size = (D5 kv vt m).length)
  (h5 : ∀ (i : Nat) (y : Value × T), (D5 kv vt m)[i]? = some y → ∃ e : MapEntry, arr[i]? = some e ∧ e.key = y.1 ∧ Cs w S e.val y.2)
  (hk : Pf P t kv) (hel : (match P.underlying t with | some (.map _ e) => e == el | _ => false) = true) (hz : Dn P el = some z) (hzv : vt dv = .val z) (hz1 : F3 z = true) (hv0 : (Fz k m).getD dv = v0) :
  ∃ v, (Instr.lookup t x (kv k) c).run P w = .ok (if c then .tuple #[v, .bool (Fz k m).isSome] else v) w ∧ Cs w S v (vt v0) := by
 obtain ⟨kt, el', kd, u1, u2, u3, u4⟩ := hk.ty
 rw [u1] at hel
 have hel' : el' = el := by simpa using hel
 subst hel'
 have hes : ∀ (j : Nat) (p : K × V), m[j]? = some p → ∃ e : MapEntry, arr.toList[j]? = some e ∧ e.key = kv p.1 ∧ Cs w S e.val (vt p.2) := fun j p hp => by
  obtain ⟨e, e1, e2, e3⟩ := h5 j (kv p.1, vt p.2) (by unfold D5; rw [zA5, hp]; rfl)
  exact ⟨e, by simpa using e1, e2, e3⟩
 rcases It (V := V) u3 k m arr.toList 0 (by simp [h4, D5]) (fun j p hp => by obtain ⟨e, e1, e2, _⟩ := hes j p hp; exact ⟨e, e1, e2⟩) with ⟨g1, g2⟩ | ⟨j, q, e, g1, g2, g3, g4, g5, _⟩
 ·refine ⟨z, ?_, ?_⟩
  ·rw [g1]
   unfold Instr.lookup
   refine Af (AB u1 w) ?_
   cases h3
   case' here h3 => refine Af (Ib h3) ?_
   all_goals refine Af (a := _) (w1 := w) rfl ?_
   all_goals refine Af (u4 _ _ _ _) ?_
   all_goals refine Af (Hs (_V := V) u2 g2) ?_
   all_goals refine Af (Ef hz w) ?_
   all_goals exact Af (a := (z, false)) (w1 := w) rfl rfl
  ·rw [← hv0, g1, Option.getD_none, hzv]; exact .val _ hz1
 ·refine ⟨e.val, ?_, ?_⟩
  ·rw [g4]
   unfold Instr.lookup
   refine Af (AB u1 w) ?_
   cases h3 with
   | nil => cases g2
   | here β clock _ h3 =>
    refine Af (Ib h3) ?_
    refine Af (a := arr) (w1 := w) rfl ?_
    refine Af (u4 _ _ _ _) ?_
    refine Af (Hs (_V := V) u2 g5) ?_
    exact Af (a := (e.val, true)) (w1 := w) rfl rfl
  ·obtain ⟨e', e1, _, e3⟩ := hes j q g1
   rw [g2] at e1; cases e1
   rw [← hv0, g4]; exact e3
inductive WM : D → List (Value × T) → List (Nat × Bj) → Prop where
 | ref (b : Nat) (es : List (Value × T)) : WM (.e (.one (.mref b))) es [(b, .mp es)]
 | tree (es : List (Value × T)) : WM (one (.mp es)) es []
theorem Cu.mpAtD {G : Gh} {a : Act} {w : World} (hs : Cu P X G st a w) {x : Operand} {d : D} {es : List (Value × T)} {bs : List (Nat × Bj)} (hm : WM d es bs) (hx : Lift.opd st.env x = some d) (hb : Gi st.bx bs) :
  ∃ arr, Qk w (a.eval x) arr ∧ arr.size = es.length ∧ ∀ (i : Nat) (y : Value × T), es[i]? = some y → ∃ m : MapEntry, arr[i]? = some m ∧ m.key = y.1 ∧ Cs w G.S m.val y.2 := by
 cases hm with
 | ref b =>
  obtain ⟨β, arr, clock, h1, h2, h3, h4, h5⟩ := hs.mpAt hx hb.1
  exact ⟨arr, by rw [h1]; exact .here β clock arr h3, h4, h5⟩
 | tree =>
  have h : Cs w G.S (a.eval x) (.mp es) := hs.opd hx
  generalize a.eval x = v at h
  cases h with
  | mp β clock arr _ h1 h2 h3 h4 h5 =>
   refine ⟨arr, .here β clock arr h2, h3, fun i y hy => ?_⟩
   have hlt : i < arr.size := by rw [h3]; exact AA hy
   exact ⟨arr[i], by simp [hlt], h4 i y _ hy (by simp [hlt]), h5 i y _ hy (by simp [hlt])⟩
  | mp0 => exact ⟨#[], .nil, rfl, fun i y hy => by simp at hy⟩
theorem QM {K V : Type} [BEq K] {t s el : Nat} {x y : Operand} {c : Bool} {z : Value} {kv : K → Value} {vt : V → T} {m : List (K × V)} {k : K} {dv v0 : V} {dx : D} {bs : List (Nat × Bj)} (hmd : WM dx (D5 kv vt m) bs) (hat : At st.env ops i X.n (.lookup t x y c) s gs)
  (hx : opd st.env x = some dx) (hy : opd st.env y = some (vD (kv k))) (hb : Gi st.bx bs) (hk : Pf P t kv) (hel : (match P.underlying t with | some (.map _ e) => e == el | _ => false) = true) (hz : Dn P el = some z) (hzv : vt dv = .val z) (hz1 : F3 z = true) (hv0 : (Fz k m).getD dv = v0)
  (next : A6 P X ops dr Q r (i + 1) (B5.upd ⟨gs ++ [(x, dx), (y, vD (kv k))], bs, some s, some (if c then .tup [.one (.pure (vt v0)), .one (.pure (.val (.bool (Fz k m).isSome)))] else one (vt v0)), [], []⟩ st) ((i, ⟨gs ++ [(x, dx), (y, vD (kv k))], bs, some s, some (if c then .tup [.one (.pure (vt v0)), .one (.pure (.val (.bool (Fz k m).isSome)))] else one (vt v0)), [], []⟩) :: log)) : A6 P X ops dr Q (r + 1) i st log := by
 obtain ⟨o, ho, hop, hd, hn, hg, hgp⟩ := hat.out
 refine A6.step next ⟨Aj.2 ⟨hgp, hx, hy, trivial⟩, hb, trivial⟩ (LR.value ho hg rfl hd.symm (CV hd hn) ?_)
 intro G st a w hs hpre
 obtain ⟨hx, hy, _⟩ := (Aj.1 hpre.r).2
 obtain ⟨arr, h3, h4, h5⟩ := hs.mpAtD hmd hx hpre.b
 have hY : a.eval y = kv k := CF (hs.opd hy : Cs w G.S (a.eval y) (.val _))
 obtain ⟨v, hv1, hv2⟩ := Pv (c := c) h3 h4 h5 hk hel hz hzv hz1 hv0
 refine ⟨(if c then .tuple #[v, .bool (Fz k m).isSome] else v), w, G, ?_, hs, ?_⟩
 ·simp only [execOp, hop, hY]
  exact Af hv1 rfl
 ·rintro d hd'
  cases c with
  | false => cases hd'; exact ⟨hv2, fun b hb => by cases hb⟩
  | true =>
   cases hd'
   refine ⟨⟨_, rfl, rfl, fun j x hj => ?_⟩, fun b hb => by simp [D.names, HA, E.names, C.names] at hb⟩
   match j, hj with
   | 0, hj => cases hj; exact hv2
   | 1, hj => cases hj; exact .val _ rfl
theorem Rn {K V : Type} [BEq K] {t s b el : Nat} {x y : Operand} {c : Bool} {z : Value} {kv : K → Value} {vt : V → T} {m : List (K × V)} {k : K} {dv v0 : V} (hat : At st.env ops i X.n (.lookup t x y c) s gs)
  (hx : opd st.env x = some (.e (.one (.mref b)))) (hy : opd st.env y = some (vD (kv k))) (hb : st.bx b = some (.mp (D5 kv vt m))) (hk : Pf P t kv) (hel : (match P.underlying t with | some (.map _ e) => e == el | _ => false) = true) (hz : Dn P el = some z) (hzv : vt dv = .val z) (hz1 : F3 z = true) (hv0 : (Fz k m).getD dv = v0)
  (next : A6 P X ops dr Q r (i + 1) (B5.upd ⟨gs ++ [(x, .e (.one (.mref b))), (y, vD (kv k))], [(b, .mp (D5 kv vt m))], some s, some (if c then .tup [.one (.pure (vt v0)), .one (.pure (.val (.bool (Fz k m).isSome)))] else one (vt v0)), [], []⟩ st) ((i, ⟨gs ++ [(x, .e (.one (.mref b))), (y, vD (kv k))], [(b, .mp (D5 kv vt m))], some s, some (if c then .tup [.one (.pure (vt v0)), .one (.pure (.val (.bool (Fz k m).isSome)))] else one (vt v0)), [], []⟩) :: log)) : A6 P X ops dr Q (r + 1) i st log :=
 QM (.ref b _) hat hx hy ⟨hb, trivial⟩ hk hel hz hzv hz1 hv0 next
theorem RJ {K V : Type} [BEq K] {t b : Nat} {x y u : Operand} {kv : K → Value} {vt : V → T} {m m' : List (K × V)} {k : K} {v : V} {op : Op} (hat : Q2 ops i = some op) (hop' : op = .mapUpdate t x y u ∨ op = .insert t x y u)
  (hx : opd st.env x = some (.e (.one (.mref b)))) (hy : opd st.env y = some (vD (kv k))) (hu : opd st.env u = some (one (vt v))) (hb : st.bx b = some (.mp (D5 kv vt m))) (hk : Pf P t kv) (hm : Iy k v m = m')
  (next : A6 P X ops dr Q r (i + 1) (B5.upd ⟨[(x, .e (.one (.mref b))), (y, vD (kv k)), (u, one (vt v))], [(b, .mp (D5 kv vt m))], none, none, [(b, .mp (D5 kv vt m'))], []⟩ st) ((i, ⟨[(x, .e (.one (.mref b))), (y, vD (kv k)), (u, one (vt v))], [(b, .mp (D5 kv vt m))], none, none, [(b, .mp (D5 kv vt m'))], []⟩) :: log)) : A6 P X ops dr Q (r + 1) i st log := by
 obtain ⟨o, ho, hop, hd, hgn⟩ := NP hat
 have hg : SH ops o [] := .none hgn
 refine A6.step next ⟨⟨hx, hy, hu, trivial⟩, ⟨hb, trivial⟩, trivial⟩ (LR.skip (rs := [(x, .e (.one (.mref b))), (y, vD (kv k)), (u, one (vt v))]) ho hg rfl hd rfl ?_)
 intro G st a w hs hpre
 obtain ⟨hx, hy, hu, _⟩ := hpre.r
 have hb := hpre.b.1
 subst hm
 obtain ⟨β, arr, clock, h1, h2, h3, h4, h5⟩ := hs.mpAt hx hb
 have hY : a.eval y = kv k := CF (hs.opd hy : Cs w G.S (a.eval y) (.val _))
 have hU : Cs w G.S (a.eval u) (vt v) := hs.opd hu
 obtain ⟨kt, el', kd, u1, u2, u3, u4⟩ := hk.ty
 have hes : ∀ (j : Nat) (p : K × V), m[j]? = some p → ∃ e : MapEntry, arr.toList[j]? = some e ∧ e.key = kv p.1 ∧ Cs w G.S e.val (vt p.2) := fun j p hp => by
  obtain ⟨e, e1, e2, e3⟩ := h5 j (kv p.1, vt p.2) (by unfold D5; rw [zA5, hp]; rfl)
  exact ⟨e, by simpa using e1, e2, e3⟩
 have hat := hs.at_ok b _ β hb rfl (.inl h2)
 have hml : arr.size = m.length := by rw [h4]; simp [D5]
 have fin : ∀ arr' clock', arr'.size = (Iy k v m).length → (∀ (j : Nat) (p : K × V), (Iy k v m)[j]? = some p → ∃ e : MapEntry, arr'[j]? = some e ∧ e.key = kv p.1 ∧ Cs w G.S e.val (vt p.2)) →
   Cu P X G ⟨st.env, Be st.bx [(b, .mp (D5 kv vt (Iy k v m)))]⟩ a (CC w β (.map arr' clock')) := by
  intro arr' clock' k1 k2
  have hS : ∀ γ, G.S γ → (CC w β (.map arr' clock')).heap[γ]? = w.heap[γ]? := fun γ hγ => by
   rw [BU, if_neg (fun (h : γ = β ∧ β < w.heap.size) => hat.2.2 (h.1 ▸ hγ))]
  refine hs.setB (b := b) (k0 := .mp (D5 kv vt m)) hb rfl rfl (.inl h2) ⟨β, arr', clock', h2, by rw [BU, if_pos ⟨rfl, hat.2.1⟩], by rw [k1]; simp [D5], fun j y hy => ?_⟩ (fun c hc => by cases hc)
  unfold D5 at hy
  rw [zA5] at hy
  cases hp : (Iy k v m)[j]? with
  | none => rw [hp] at hy; cases hy
  | some p =>
   rw [hp] at hy; cases hy
   obtain ⟨e, e1, e2, e3⟩ := k2 j p hp
   exact ⟨e, e1, e2, e3.mono hS fun _ h => h⟩
 have hrun : ∀ w', (Instr.mapUpdate t (.map (some β)) (kv k) (a.eval u)).run P w = .ok () w' → (execOp a.eval o).run P w = .ok .skip w' := fun w' h => by
  rcases hop' with e | e
  ·simp only [execOp, hop, e, h1, hY]; exact Af h rfl
  ·simp only [execOp, hop, e, h1, hY]; exact Af h rfl
 rcases It (V := V) u3 k m arr.toList 0 (by simp [hml]) (fun j p hp => by obtain ⟨e, e1, e2, _⟩ := hes j p hp; exact ⟨e, e1, e2⟩) with ⟨g1, g2⟩ | ⟨j, q, e, g1, g2, g3, g4, g5, g6⟩
 ·refine ⟨_, G, hrun _ ?_, fin (arr.push { key := kv k, val := a.eval u, born := clock }) (clock + 1) ?_ ?_⟩
  ·unfold Instr.mapUpdate
   refine Af (AB u1 w) ?_
   refine Af (Ib h3) ?_
   refine Af (u4 _ _ _ _) ?_
   refine Af (Hs (_V := V) u2 g2) ?_
   exact LE h3
  ·rw [Kw k v g1]; simp [hml]
  ·intro j p hp
   rw [Kw k v g1] at hp
   by_cases hj : j < m.length
   ·rw [zD3 hj] at hp
    obtain ⟨e, e1, e2, e3⟩ := hes j p hp
    refine ⟨e, ?_, e2, e3⟩
    rw [Array.getElem?_push, if_neg (by omega)]
    simpa using e1
   ·rw [zC9 (by omega)] at hp
    have hj0 : j - m.length = 0 := by have := AA hp; simp at this; omega
    rw [hj0] at hp; cases hp
    exact ⟨{ key := kv k, val := a.eval u, born := clock }, by rw [Array.getElem?_push, if_pos (by omega)], rfl, hU⟩
 ·have hjm := AA g1
  have hje : arr[j]? = some e := by simpa using g2
  have hek : e.key = kv q.1 := by obtain ⟨e', e1, e2, _⟩ := hes j q g1; rw [g2] at e1; cases e1; exact e2
  refine ⟨_, G, hrun _ ?_, fin (arr.modify j fun e => { e with key := kv k, val := a.eval u }) clock ?_ ?_⟩
  ·unfold Instr.mapUpdate
   refine Af (AB u1 w) ?_
   refine Af (Ib h3) ?_
   refine Af (u4 _ _ _ _) ?_
   refine Af (Hs (_V := V) u2 g5) ?_
   simp only [zA4]
   refine Af (a := kv k) (w1 := w) ?_ (LE h3)
   rw [hje]
   simp only [zE5, zC2]
   unfold Instr.keyThatStays
   rw [hek, hk.same k q.1 g3]; rfl
  ·rw [g6 v]; simp [hml]
  ·intro j' p hp
   rw [g6 v] at hp
   rw [Array.getElem?_modify]
   rcases Lf hp with ⟨rfl, rfl⟩ | ⟨hne, hp⟩
   ·rw [if_pos rfl, hje]
    exact ⟨_, rfl, rfl, hU⟩
   ·rw [if_neg (fun h => hne h.symm)]
    obtain ⟨e', e1, e2, e3⟩ := hes j' p hp
    exact ⟨e', by simpa using e1, e2, e3⟩
end run
end Go.Lift
namespace Go.Lift
open Go.RowKit
variable {P : Program} {X : Gt} {ops : Array Oper}
section run
variable {dr : Bool} {Q : St → Prop} {r i : Nat} {st : St} {log : List (Nat × B5)} {o : Oper} {gs : List (Operand × D)}
def XC : Ow → Bool
 | .s => true
 | _ => false
end run
def Rr (e : Nat) (cols : List Ow) (rows : List (List T)) : Bj := if cols.all XC then .vec e rows else .dvec e cols rows
section run
variable {dr : Bool} {Q : St → Prop} {r i : Nat} {st : St} {log : List (Nat × B5)} {o : Oper} {gs : List (Operand × D)}
end run
end Go.Lift
namespace Go.Lift
open Go.RowKit
variable {P : Program} {X : Gt} {ops : Array Oper}
section run
variable {dr : Bool} {Q : St → Prop} {r i : Nat} {st : St} {log : List (Nat × B5)} {o : Oper} {gs : List (Operand × D)}
structure Ur (w : World) (S : Nat → Prop) (e : Nat) (cols : List Ow) (rows : List (List T)) (Rf : Nat → Nat → Nat → Prop) (f : Nat → Value) : Prop where
 len : ∀ (i : Nat) (row : List T), rows[i]? = some row → row.length = e
 cell : ∀ (i : Nat) (row : List T) (j : Nat) (t : T), rows[i]? = some row → row[j]? = some t → PH w S (cols.getD j .s) (Rf i j) (f (i * e + j)) t
 dis : ∀ i j i' j' γ, Rf i j γ → Rf i' j' γ → i = i' ∧ j = j'
theorem Ur.ones {w : World} {S : Nat → Prop} {e : Nat} {cols : List Ow} {rows : List (List T)} {Rf : Nat → Nat → Nat → Prop} {arr : Array Value} (h : Ur w S e cols rows Rf (Ap arr)) (hs : arr.size = rows.length * e) : ∀ u, u ∈ arr.toList → F3 u = true := by
 intro u hu
 obtain ⟨k, hk⟩ := zB0.1 hu
 have hk' : arr[k]? = some u := by simpa using hk
 have hlt : k < arr.size := by
  rcases zC7 k arr.size with h' | h'
  ·exact h'
  ·rw [zD0 h'] at hk'; cases hk'
 rcases Nat.eq_zero_or_pos e with e0 | e0
 ·rw [e0, Nat.mul_zero] at hs; omega
 have h1 : k / e < rows.length := (Nat.div_lt_iff_lt_mul e0).2 (by omega)
 have h2 : k % e < e := Nat.mod_lt _ e0
 have hrow : rows[k / e]? = some rows[k / e] := by simp [h1]
 have hlen := h.len _ _ hrow
 have hcell : (rows[k / e])[k % e]? = some ((rows[k / e])[k % e]'(by omega)) := by simp [show k % e < rows[k / e].length from by omega]
 have := (h.cell _ _ _ _ hrow hcell).one
 rw [show k / e * e + k % e = k from by rw [Nat.mul_comm]; exact Nat.div_add_mod k e] at this
 simpa [Ap, hk'] using this
end run
end Go.Lift
namespace Go.Lift
open Go.RowKit
variable {P : Program} {X : Gt} {ops : Array Oper}
theorem Ma {α : Type} (f : α → List T) (b e : Nat) (xs : List α) : Mk (.e (.one (.own b))) b e (xs.map f) 0 xs.length := by
 have := Mk.own b e (xs.map f)
 rwa [zB9] at this
theorem Q6 {α : Type} (f : α → List T) (b e lo len : Nat) (xs : List α) (h : lo + len ≤ xs.length) : Mk (.e (.one (.view b e lo len))) b e (xs.map f) lo len := .view b e _ lo len (by simpa using h)
theorem Q0 {α : Type} (f : α → List T) (b e lo len : Nat) (xs : List α) (h : lo + len ≤ xs.length) : OL (.e (.one (.view b e lo len))) [(b, .vec e (xs.map f))] e (((xs.drop lo).take len).map f) := by
 have := OL.view b e (xs.map f) lo len (by simpa using h)
 rwa [← List.map_drop, ← List.map_take] at this
theorem SK {α : Type} (f : α → List T) (e : Nat) (xs : List α) (h : ∀ x, (f x).length = e) : OL (one (.sl (xs.map f))) [] e (xs.map f) := .of (.sl _ _ (Ix h xs))
section run
variable {dr : Bool} {Q : St → Prop} {r i : Nat} {st : St} {log : List (Nat × B5)} {o : Oper} {gs : List (Operand × D)}
theorem OH {α : Type} (f : α → List T) (xs : List α) {x : Operand} {t el s e l h b lo0 len lo1 len1 : Nat} {lo hi : Option Operand} {rl rh : List (Operand × D)} {d : D} (hat : At st.env ops i X.n (.slice t x lo hi none) s gs)
  (hx : opd st.env x = some d) (hD : Mk d b e (xs.map f) lo0 len) (hb : st.bx b = some (.vec e (xs.map f))) (ht : sliceB P t el = true) (he : Gb P el e = true) (hlo : Pm lo 0 l rl) (hhi : Pm hi len h rh) (h1 : D1 st.env rl) (h2 : D1 st.env rh) (hlh : l ≤ h) (hhl : lo0 + h ≤ xs.length) (e1 : lo0 + l = lo1) (e2 : h - l = len1)
  (next : A6 P X ops dr Q r (i + 1) (B5.upd ⟨gs ++ ((x, d) :: (rl ++ rh)), [(b, .vec e (xs.map f))], some s, some (.e (.one (.view b e lo1 len1))), [], []⟩ st) ((i, ⟨gs ++ ((x, d) :: (rl ++ rh)), [(b, .vec e (xs.map f))], some s, some (.e (.one (.view b e lo1 len1))), [], []⟩) :: log)) : A6 P X ops dr Q (r + 1) i st log := by
 subst e1; subst e2
 exact Sy hat hx hD hb ht he hlo hhi h1 h2 hlh (by simpa using hhl) next
theorem P7 {α : Type} (f : α → List T) (xs ys : List α) {x y : Operand} {t t2 el s e b lo len : Nat} {d d2 : D} {rb2 : List (Nat × Bj)} (hat : At st.env ops i X.n (.call ⟨.builtin .copy, #[x, y], #[t, t2]⟩) s gs)
  (hx : opd st.env x = some d) (hD : Mk d b e (xs.map f) lo len) (hb : st.bx b = some (.vec e (xs.map f))) (hy : opd st.env y = some d2) (hS : OL d2 rb2 e (ys.map f)) (hb2 : Gi st.bx rb2) (ht : sliceB P t el = true) (he : Gb P el e = true)
  (next : A6 P X ops dr Q r (i + 1) (B5.upd ⟨gs ++ [(x, d), (y, d2)], (b, .vec e (xs.map f)) :: rb2, some s, some (vD (.int .i64 ((zD2 ys.length len : Nat) : Int))), [(b, .vec e ((Od xs lo (ys.take (zD2 ys.length len))).map f))], []⟩ st) ((i, ⟨gs ++ [(x, d), (y, d2)], (b, .vec e (xs.map f)) :: rb2, some s, some (vD (.int .i64 ((zD2 ys.length len : Nat) : Int))), [(b, .vec e ((Od xs lo (ys.take (zD2 ys.length len))).map f))], []⟩) :: log)) : A6 P X ops dr Q (r + 1) i st log := by
 have hl : (ys.map f).length = ys.length := zB9 _
 refine U0 hat hx hD hb hy hS hb2 ht he (rows' := (Od xs lo (ys.take (zD2 ys.length len))).map f) ?_ ?_
 ·rw [hl, ← List.map_take, Ta]
 ·rw [hl]; exact next
end run
theorem T6 {c : Code} {Q : Exit → St → Prop} {st : St} (h : W P X c (fun e st => ∃ st', Fj P X st st' ∧ Q e st') st) : W P X c Q st := by
 intro a w hs
 refine wp_mono (h a w hs) ?_
 rintro e a' w' ⟨st', ⟨st2, h1, h2⟩, h3⟩
 exact ⟨st2, h2, h1 a' w' h3⟩
def QB (f : Nat → Nat) (env : Nat → Option D) : List (Nat × D) → Prop
 | [] => True
 | (s, d) :: ps => env s = some (d.ren f) ∧ QB f env ps
def Qu (f : Nat → Nat) (bx : Nat → Option Bj) : List (Nat × Bj) → Prop
 | [] => True
 | (b, k) :: ps => bx (f b) = some (k.ren f) ∧ Qu f bx ps
def Eg : List (Nat × Bj) → List Nat
 | [] => []
 | (b, _) :: ps => b :: Eg ps
def KH (f : Nat → Nat) : List Nat → Bool
 | [] => true
 | b :: bs => (if Bt b then f b == b else !Bt (f b)) && KH f bs
def Vz (b : Nat) : List Nat → Bool
 | [] => false
 | c :: cs => c == b || Vz b cs
def Nf (ns : List Nat) : List (Nat × D) → Bool
 | [] => true
 | (_, d) :: ps => (d.names.all fun b => Vz b ns) && Nf ns ps
def M9 (ns : List Nat) : List (Nat × Bj) → Bool
 | [] => true
 | (_, d) :: ps => (d.names.all fun b => Vz b ns) && M9 ns ps
theorem Pe {f : Nat → Nat} {env : Nat → Option D} : ∀ {el : List (Nat × D)}, QB f env el → TJ f env el
 | [], _ => trivial
 | (_, _) :: _, h => ⟨h.1, Pe h.2⟩
theorem O9 {f : Nat → Nat} {bx : Nat → Option Bj} : ∀ {bl : List (Nat × Bj)}, Qu f bx bl → S4 f bx bl
 | [], _ => trivial
 | (_, _) :: _, h => ⟨h.1, O9 h.2⟩
theorem M4 : ∀ bl : List (Nat × Bj), Eg bl = bl.map (·.1)
 | [] => rfl
 | (b, k) :: ps => by simp [Eg, M4 ps]
theorem ML {f : Nat → Nat} : ∀ bl : List (Nat × Bj), KH f (Eg bl) = bl.all fun p => if Bt p.1 then f p.1 == p.1 else !Bt (f p.1)
 | [] => rfl
 | (b, k) :: ps => by simp only [Eg, KH, zD7, ML ps]
theorem PF {b : Nat} : ∀ bl : List (Nat × Bj), Vz b (Eg bl) = bl.any fun q => q.1 == b
 | [] => rfl
 | (c, k) :: ps => by simp only [Eg, Vz, zH1, PF ps]
theorem O3 (bl : List (Nat × Bj)) : ∀ el : List (Nat × D), Nf (Eg bl) el = el.all fun p => p.2.names.all fun b => bl.any fun q => q.1 == b
 | [] => rfl
 | (s, d) :: ps => by simp only [Nf, zD7, O3 bl ps, PF]
theorem Pg (bl : List (Nat × Bj)) : ∀ el : List (Nat × Bj), M9 (Eg bl) el = el.all fun p => p.2.names.all fun b => bl.any fun q => q.1 == b
 | [] => rfl
 | (s, d) :: ps => by simp only [M9, zD7, Pg bl ps, PF]
theorem Rl {st : St} (f : Nat → Nat) (el : List (Nat × D)) (bl : List (Nat × Bj)) (he : QB f st.env el) (hb : Qu f st.bx bl) (hi : (GE ((Eg bl).map f) && KH f (Eg bl)) = true) (hs : (Nf (Eg bl) el && M9 (Eg bl) bl) = true) : Fj P X st (mk el bl) := by
 refine Tv f el bl (Pe he) (O9 hb) ?_ ?_
 ·rw [ML, M4] at hi; exact hi
 ·rw [O3, Pg] at hs; exact hs
theorem QF {dr : Bool} {Q : St → Prop} {r i : Nat} {st : St} {log : List (Nat × B5)} {gs : List (Operand × D)} {x y : Operand} {t s : Nat} {b : ByteArray} {k : IntKind} {n v : Int} (hat : At st.env ops i X.n (.index t x y) s gs)
  (hx : opd st.env x = some (vD (.string b))) (hy : opd st.env y = some (vD (.int k n))) (ht : K4 P t = true) (hv : TS b n = some v)
  (next : A6 P X ops dr Q r (i + 1) (B5.upd ⟨gs ++ [(x, vD (.string b)), (y, vD (.int k n))], [], some s, some (vD (.int .u8 v)), [], []⟩ st) ((i, ⟨gs ++ [(x, vD (.string b)), (y, vD (.int k n))], [], some s, some (vD (.int .u8 v)), [], []⟩) :: log)) : A6 P X ops dr Q (r + 1) i st log := by
 obtain ⟨c, h0, hc, e⟩ := QW (f := some) (r := v) (by rw [hv]; rfl)
 cases e
 exact Ro hat hx hy ht h0 hc next
theorem MS {t kt el : TypeId} {k : IntKind} (h1 : P.underlying t = some (.map kt el)) (h2 : P.underlying kt = some (.int k)) : Pf P t (Value.int k) where
 ty := ⟨kt, el, .int k, h1, h2, fun a b => by simp [Instr.sameNow], fun e n v w => by
  unfold Instr.checkKey
  refine Af (AB h2 w) ?_
  rfl⟩
 same := fun a b h => by
  show (k == k && b == a) = true
  rw [beq_iff_eq] at h; subst h; simp
end Go.Lift
namespace Go.Lift
open Go.RowKit
variable {P : Program} {X : Gt} {ops : Array Oper}
def hd (env : Nat → Option D) (ops : Array Oper) (i n : Nat) : Option (Op × Nat × List (Operand × D)) := match Xa ops i n with
 | some (op, s) => some (op, s, [])
 | none => match WX ops i n with
  | some (op, s, t, want) => (match env t, want with
   | some (.e (.one (.pure (.val (.bool true))))), true => some (op, s, [(.tmp t, bD true)])
   | some (.e (.one (.pure (.val (.bool false))))), false => some (op, s, [(.tmp t, bD false)])
   | _, _ => none)
  | none => none
theorem CD {env : Nat → Option D} {n i s : Nat} {op : Op} {gs : List (Operand × D)} (h : hd env ops i n = some (op, s, gs)) : At env ops i n op s gs := by
 unfold hd at h
 split at h
 ·rename_i e; cases h; exact .p e
 ·split at h
  ·rename_i e
   split at h
   ·rename_i e2; cases h; exact .g e e2
   ·rename_i e2; cases h; exact .g e e2
   ·cases h
  ·cases h
theorem t2 {α β : Type} {a c : α} {b d : β} (h : (a, b) = (c, d)) : a = c ∧ b = d := Prod.mk.inj h
abbrev Nx (P : Program) (X : Gt) (ops : Array Oper) (dr : Bool) (Q : St → Prop) (r i : Nat) (st : St) (log : List (Nat × B5)) (l : B5) : Prop := A6 P X ops dr Q r (i + 1) (B5.upd l st) ((i, l) :: log)
theorem sj {α : Type} {a b : α} (h : some a = some b) : a = b := Option.some.inj h
def SB (env : Nat → Option D) : List Operand → Option (List D)
 | [] => some []
 | x :: xs => match opd env x, SB env xs with
  | some d, some ds => some (d :: ds)
  | _, _ => none
theorem Nq {env : Nat → Option D} : ∀ {xs : List Operand} {ds : List D}, SB env xs = some ds → xs.length = ds.length ∧ D1 env (FN xs ds)
 | [], ds, h => by cases h; exact ⟨rfl, trivial⟩
 | x :: xs, ds, h => by
  simp only [SB] at h
  split at h
  ·rename_i e1 e2
   cases h
   have := Nq e2
   exact ⟨by simp [this.1], e1, this.2⟩
  ·cases h
def WL (bx : Nat → Option Bj) : List Nat → Option (List (Nat × Bj))
 | [] => some []
 | b :: bs => match bx b, WL bx bs with
  | some k, some ks => some ((b, k) :: ks)
  | _, _ => none
theorem R1 {bx : Nat → Option Bj} : ∀ {l : List Nat} {bs : List (Nat × Bj)}, WL bx l = some bs → Gi bx bs
 | [], bs, h => by cases h; trivial
 | b :: l, bs, h => by
  simp only [WL] at h
  split at h
  ·rename_i e1 e2
   cases h
   exact ⟨e1, R1 e2⟩
  ·cases h
def Vf (env : Nat → Option D) : List (Nat × Operand) → Option (List (Nat × Operand × E))
 | [] => some []
 | p :: ps => match opd env p.2, Vf env ps with
  | some (.e y), some qs => some ((p.1, p.2, y) :: qs)
  | _, _ => none
theorem Qf {env : Nat → Option D} : ∀ {l : List (Nat × Operand)} {ps : List (Nat × Operand × E)}, Vf env l = some ps → l = (ps.map fun p => (p.1, p.2.1)) ∧ D1 env (F8 ps)
 | [], ps, h => by cases h; exact ⟨rfl, trivial⟩
 | p :: l, ps, h => by
  simp only [Vf] at h
  split at h
  ·rename_i e1 e2
   cases h
   have := Qf e2
   exact ⟨by rw [zC4, ← this.1], e1, this.2⟩
  ·cases h
theorem Rt {env : Nat → Option D} {parts : Array (Nat × Operand)} {ps : List (Nat × Operand × E)} (h : Vf env parts.toList = some ps) : parts = (ps.map fun p => (p.1, p.2.1)).toArray ∧ D1 env (F8 ps) := by
 have := Qf h
 exact ⟨by rw [← this.1], this.2⟩
def Tz (k : Nat) : List (Nat × Operand × E) → Bool
 | [] => true
 | p :: ps => Nat.beq p.1 k && Tz (k + 1) ps
theorem Qz : ∀ {k : Nat} {ps : List (Nat × Operand × E)}, Tz k ps = true → ps.map (·.1) = zH3 k ps.length
 | _, [], _ => rfl
 | k, p :: ps, h => by
  simp only [Tz, zA1] at h
  rw [zC4, zD4, List.range'_succ, Qz h.2, Nat.eq_of_beq_eq_true h.1]
def Xe : Option Bj → Bool
 | none => true
 | some _ => false
theorem NX {bx : Nat → Option Bj} : ∀ {ns : List Nat}, (ns.all fun n => Xe (bx n)) = true → JA bx ns
 | [], _ => trivial
 | n :: ns, h => by
  simp only [zD7, zA1] at h
  refine ⟨?_, NX h.2⟩
  have := h.1
  cases hb : bx n with
  | none => rfl
  | some k => rw [hb] at this; cases this
theorem M0 {ns : List Nat} (h : (GE ns && (ns.all fun n => !Bt n)) = true) : ID ns := by
 rw [zA1] at h
 exact ⟨Ee h.1, fun c hc => by simpa using zA2.1 h.2 c hc⟩
def V2 (env : Nat → Option D) : List (Nat × D) → List (Option D)
 | [] => []
 | (s, _) :: ps => env s :: V2 env ps
def Vn (f : Nat → Nat) : List (Nat × D) → List (Option D)
 | [] => []
 | (_, d) :: ps => some (d.ren f) :: Vn f ps
def VW (f : Nat → Nat) (bx : Nat → Option Bj) : List (Nat × Bj) → List (Option Bj)
 | [] => []
 | (b, _) :: ps => bx (f b) :: VW f bx ps
def Wc (f : Nat → Nat) : List (Nat × Bj) → List (Option Bj)
 | [] => []
 | (_, k) :: ps => some (k.ren f) :: Wc f ps
theorem RO {f : Nat → Nat} {env : Nat → Option D} : ∀ {el : List (Nat × D)}, V2 env el = Vn f el → QB f env el
 | [], _ => trivial
 | (s, d) :: el, h => by
  simp only [V2, Vn] at h
  obtain ⟨h1, h2⟩ := List.cons.inj h
  exact ⟨h1, RO h2⟩
theorem Sl {f : Nat → Nat} {bx : Nat → Option Bj} : ∀ {el : List (Nat × Bj)}, VW f bx el = Wc f el → Qu f bx el
 | [], _ => trivial
 | (s, d) :: el, h => by
  simp only [VW, Wc] at h
  obtain ⟨h1, h2⟩ := List.cons.inj h
  exact ⟨h1, Sl h2⟩
theorem sm {st : St} (l : List (Nat × Nat)) (el : List (Nat × D)) (bl : List (Nat × Bj)) (h : (V2 st.env el, VW (rn l) st.bx bl) = (Vn (rn l) el, Wc (rn l) bl)) (hi : ((GE ((Eg bl).map (rn l)) && KH (rn l) (Eg bl)) && (Nf (Eg bl) el && M9 (Eg bl) bl)) = true) : Fj P X st (mk el bl) :=
 Rl (rn l) el bl (RO (t2 h).1) (Sl (t2 h).2) (zF7.1 hi).1 (zF7.1 hi).2
section run
variable {dr : Bool} {Q : St → Prop} {r i : Nat} {st : St} {log : List (Nat × B5)} {gs : List (Operand × D)}
theorem qm {x : Operand} {d : D} {s : Nat} (h : (hd st.env ops i X.n, opd st.env x) = (some (.move x, s, gs), some d)) (next : Nx P X ops dr Q r i st log ⟨gs ++ [(x, d)], [], some s, some d, [], []⟩) : A6 P X ops dr Q (r + 1) i st log :=
 UY (CD (t2 h).1) (t2 h).2 next
theorem qa {x : Operand} {d : D} {s : Nat} (h : (hd st.env ops i X.n, opd st.env x) = (some (.assign x, s, gs), some d)) (next : Nx P X ops dr Q r i st log ⟨gs ++ [(x, d)], [], some s, some d, [], []⟩) : A6 P X ops dr Q (r + 1) i st log :=
 Sk (CD (t2 h).1) (t2 h).2 next
theorem qn {j t s : Nat} {want : Bool} (h : (Vb ops i X.n, st.env t) = (some (j, s, t, want), some (bD (!want)))) (next : Nx P X ops dr Q r i st log ⟨[(.tmp t, bD (!want))], [], some s, some uD, [], []⟩) : A6 P X ops dr Q (r + 1) i st log :=
 UW (t2 h).1 (t2 h).2 next
theorem qu {j t s : Nat} {want : Bool} (h : (Vb ops i X.n, st.env t) = (some (j, s, t, want), some uD)) (next : Nx P X ops dr Q r i st log ⟨[(.tmp t, uD)], [], some s, some uD, [], []⟩) : A6 P X ops dr Q (r + 1) i st log :=
 U8 (t2 h).1 (t2 h).2 next
theorem qp {c x y : Operand} {b : Bool} {d : D} {z : Operand} {s : Nat} (h : (hd st.env ops i X.n, opd st.env c, (if b then x else y), opd st.env z) = (some (.pick c x y, s, gs), some (bD b), z, some d)) (next : Nx P X ops dr Q r i st log ⟨gs ++ [(c, bD b), (z, d)], [], some s, some d, [], []⟩) : A6 P X ops dr Q (r + 1) i st log :=
 UQ (CD (t2 h).1) (t2 (t2 h).2).1 (t2 (t2 (t2 h).2).2).1 (t2 (t2 (t2 h).2).2).2 next
theorem qf {x : Operand} {b k f off s : Nat} {t : TypeId} (hf : BH P t f off = true) (h : (hd st.env ops i X.n, opd st.env x) = (some (.fieldAddr t x f, s, gs), some (.e (.one (.ptr b k))))) (next : Nx P X ops dr Q r i st log ⟨gs ++ [(x, .e (.one (.ptr b k)))], [], some s, some (.e (.one (.ptr b (k + off)))), [], []⟩) : A6 P X ops dr Q (r + 1) i st log :=
 Or (CD (t2 h).1) (t2 h).2 hf next
theorem qg {x : Operand} {ts us : List T} {f off s : Nat} {t : TypeId} (hf : BH P t f off = true) (h : (hd st.env ops i X.n, opd st.env x, zF2 (off) (ts.length), ts.drop off) = (some (.fieldAddr t x f, s, gs), some (.e (.one (.rop ts))), true, us)) (next : Nx P X ops dr Q r i st log ⟨gs ++ [(x, .e (.one (.rop ts)))], [], some s, some (.e (.one (.rop us))), [], []⟩) : A6 P X ops dr Q (r + 1) i st log :=
 Oh (CD (t2 h).1) (t2 (t2 h).2).1 hf (zB5 (t2 (t2 (t2 h).2).2).1) (t2 (t2 (t2 h).2).2).2 next
theorem ql {x : Operand} {b k s : Nat} {cells : List C} {c : C} {t : TypeId} (ht : Ek P t false = true) (h : (hd st.env ops i X.n, opd st.env x, st.bx b, cells[k]?) = (some (.load t x, s, gs), some (.e (.one (.ptr b k))), some (.box cells), some c)) (next : Nx P X ops dr Q r i st log ⟨gs ++ [(x, .e (.one (.ptr b k)))], [(b, .box cells)], some s, some (.e (.one c)), [], []⟩) : A6 P X ops dr Q (r + 1) i st log :=
 TF (CD (t2 h).1) (t2 (t2 h).2).1 ht (t2 (t2 (t2 h).2).2).1 (t2 (t2 (t2 h).2).2).2 next
theorem qL {x : Operand} {b k n s : Nat} {cells cs : List C} {t : TypeId} (ht : Ek P t true = true) (hz : Gb P t n = true) (h : (hd st.env ops i X.n, opd st.env x, st.bx b, (cells.drop k).take n, cs.length) = (some (.load t x, s, gs), some (.e (.one (.ptr b k))), some (.box cells), cs, n)) (next : Nx P X ops dr Q r i st log ⟨gs ++ [(x, .e (.one (.ptr b k)))], [(b, .box cells)], some s, some (.e (.agg cs)), [], []⟩) : A6 P X ops dr Q (r + 1) i st log :=
 TO (CD (t2 h).1) (t2 (t2 h).2).1 ht hz (t2 (t2 (t2 h).2).2).1 (t2 (t2 (t2 (t2 h).2).2).2).1 (t2 (t2 (t2 (t2 h).2).2).2).2 next
theorem qk {x : Operand} {s : Nat} {ts : List T} {u : T} {t : TypeId} (ht : Ek P t false = true) (h : (hd st.env ops i X.n, opd st.env x, ts[0]?) = (some (.load t x, s, gs), some (.e (.one (.rop ts))), some u)) (next : Nx P X ops dr Q r i st log ⟨gs ++ [(x, .e (.one (.rop ts)))], [], some s, some (one u), [], []⟩) : A6 P X ops dr Q (r + 1) i st log :=
 Sc (CD (t2 h).1) (t2 (t2 h).2).1 ht (t2 (t2 h).2).2 next
theorem qK {x : Operand} {s n : Nat} {ts us : List T} {t : TypeId} (ht : Ek P t true = true) (hz : Gb P t n = true) (h : (hd st.env ops i X.n, opd st.env x, ts.take n, us.length) = (some (.load t x, s, gs), some (.e (.one (.rop ts))), us, n)) (next : Nx P X ops dr Q r i st log ⟨gs ++ [(x, .e (.one (.rop ts)))], [], some s, some (.e (.agg (us.map C.pure))), [], []⟩) : A6 P X ops dr Q (r + 1) i st log :=
 Ry (CD (t2 h).1) (t2 (t2 h).2).1 ht hz (t2 (t2 (t2 h).2).2).1 (t2 (t2 (t2 h).2).2).2 next
theorem qx {x : Operand} {xs : List E} {y : E} {k s : Nat} (h : (hd st.env ops i X.n, opd st.env x, xs[k]?) = (some (.extract x k, s, gs), some (.tup xs), some y)) (next : Nx P X ops dr Q r i st log ⟨gs ++ [(x, .tup xs)], [], some s, some (.e y), [], []⟩) : A6 P X ops dr Q (r + 1) i st log :=
 QV (CD (t2 h).1) (t2 (t2 h).2).1 (t2 (t2 h).2).2 next
theorem qb {x : Operand} {y : E} {s : Nat} {el : TypeId} (h : (hd st.env ops i X.n, opd st.env x, st.bx s) = (some (.box el x, s, gs), some (.e y), none)) (next : Nx P X ops dr Q r i st log ⟨gs ++ [(x, .e y)], [], some s, some (.e (.one (.ptr s 0))), [(s, .box y.cells)], [s]⟩) : A6 P X ops dr Q (r + 1) i st log :=
 VP (CD (t2 h).1) (t2 (t2 h).2).1 (t2 (t2 h).2).2 next
theorem qz {z : Value} {zs : List Value} {s : Nat} {el : TypeId} (hz : Dn P el = some z) (h : (hd st.env ops i X.n, z.cells.toList, zs.all F3, st.bx s) = (some (.alloc el, s, gs), zs, true, none)) (next : Nx P X ops dr Q r i st log ⟨gs ++ [], [], some s, some (.e (.one (.ptr s 0))), [(s, .box (zs.map fun v => C.pure (T.of v)))], [s]⟩) : A6 P X ops dr Q (r + 1) i st log :=
 SI (CD (t2 h).1) hz (t2 (t2 h).2).1 (t2 (t2 (t2 h).2).2).1 (t2 (t2 (t2 h).2).2).2 next
theorem qs {x y : Operand} {b k n : Nat} {cells cells' : List C} {v : E} {t : TypeId} (hz : Gb P t n = true) (h : (Q2 ops i, opd st.env x, opd st.env y, st.bx b, v.cells.length, zF2 (k + n) (cells.length), HU cells k v.cells) = (some (.store t x y), some (.e (.one (.ptr b k))), some (.e v), some (.box cells), n, true, cells')) (next : Nx P X ops dr Q r i st log ⟨[(x, .e (.one (.ptr b k))), (y, .e v)], [(b, .box cells)], none, none, [(b, .box cells')], []⟩) : A6 P X ops dr Q (r + 1) i st log :=
 TN (t2 h).1 (t2 (t2 h).2).1 (t2 (t2 (t2 h).2).2).1 (t2 (t2 (t2 (t2 h).2).2).2).1 hz (t2 (t2 (t2 (t2 (t2 h).2).2).2).2).1 (zB5 (t2 (t2 (t2 (t2 (t2 (t2 h).2).2).2).2).2).1) (t2 (t2 (t2 (t2 (t2 (t2 h).2).2).2).2).2).2 next
theorem qi {x y : Operand} {s e : Nat} {rows : List (List T)} {row : List T} {t el : TypeId} {k : IntKind} {n : Int} (ht : sliceB P t el = true) (hz : Gb P el e = true) (h0 : 0 ≤ n) (hrow : rows[n.toNat]? = some row) (h : (hd st.env ops i X.n, opd st.env x, opd st.env y, row.length) = (some (.indexAddr t x y, s, gs), some (one (.sl rows)), some (vD (.int k n)), e)) (next : Nx P X ops dr Q r i st log ⟨gs ++ [(x, one (.sl rows)), (y, vD (.int k n))], [], some s, some (.e (.one (.rop row))), [], []⟩) : A6 P X ops dr Q (r + 1) i st log :=
 TH (CD (t2 h).1) (t2 (t2 h).2).1 (t2 (t2 (t2 h).2).2).1 ht hz h0 hrow (t2 (t2 (t2 h).2).2).2 next
theorem qI {x y : Operand} {s e b : Nat} {rows : List (List T)} {row : List T} {t el : TypeId} {k : IntKind} {n : Int} (ht : sliceB P t el = true) (hz : Gb P el e = true) (h0 : 0 ≤ n) (hrow : rows[n.toNat]? = some row) (h : (hd st.env ops i X.n, opd st.env x, opd st.env y, st.bx b) = (some (.indexAddr t x y, s, gs), some (.e (.one (.own b))), some (vD (.int k n)), some (.vec e rows))) (next : Nx P X ops dr Q r i st log ⟨gs ++ [(x, .e (.one (.own b))), (y, vD (.int k n))], [(b, .vec e rows)], some s, some (.e (.one (.eptr b e n.toNat 0))), [], []⟩) : A6 P X ops dr Q (r + 1) i st log :=
 Ov (CD (t2 h).1) (t2 (t2 h).2).1 (t2 (t2 (t2 h).2).2).1 (t2 (t2 (t2 h).2).2).2 ht hz h0 hrow next
theorem qj {x : Operand} {b e ix k s : Nat} {rows : List (List T)} {row : List T} {u : T} {t : TypeId} (ht : Ek P t false = true) (hrow : rows[ix]? = some row) (h : (hd st.env ops i X.n, opd st.env x, st.bx b, row[k]?) = (some (.load t x, s, gs), some (.e (.one (.eptr b e ix k))), some (.vec e rows), some u)) (next : Nx P X ops dr Q r i st log ⟨gs ++ [(x, .e (.one (.eptr b e ix k)))], [(b, .vec e rows)], some s, some (one u), [], []⟩) : A6 P X ops dr Q (r + 1) i st log :=
 OA (CD (t2 h).1) (t2 (t2 h).2).1 ht (t2 (t2 (t2 h).2).2).1 hrow (t2 (t2 (t2 h).2).2).2 next
theorem qJ {x : Operand} {b e ix s : Nat} {rows : List (List T)} {row : List T} {t : TypeId} (ht : Ek P t true = true) (hz : Gb P t e = true) (hrow : rows[ix]? = some row) (h : (hd st.env ops i X.n, opd st.env x, st.bx b) = (some (.load t x, s, gs), some (.e (.one (.eptr b e ix 0))), some (.vec e rows))) (next : Nx P X ops dr Q r i st log ⟨gs ++ [(x, .e (.one (.eptr b e ix 0)))], [(b, .vec e rows)], some s, some (.e (.agg (row.map C.pure))), [], []⟩) : A6 P X ops dr Q (r + 1) i st log :=
 Rh (CD (t2 h).1) (t2 (t2 h).2).1 ht hz (t2 (t2 h).2).2 hrow next
theorem HK {x : Operand} {s b k : Nat} (h : (hd st.env ops i X.n, opd st.env x) = (some (.nilCheck x, s, gs), some (.e (.one (.ptr b k))))) (next : Nx P X ops dr Q r i st log ⟨gs ++ [(x, .e (.one (.ptr b k)))], [], some s, some (.e (.one (.ptr b k))), [], []⟩) : A6 P X ops dr Q (r + 1) i st log :=
 PV (CD (t2 h).1) (t2 h).2 next
theorem CB {k : IntKind} {xt yt : TypeId} {x y : Operand} {a b : Int} {s : Nat} (h : (hd st.env ops i X.n, opd st.env x, opd st.env y) = (some (.binOp .add xt x y yt, s, gs), some (vD (.int k a)), some (vD (.int k b)))) (next : Nx P X ops dr Q r i st log ⟨gs ++ [(x, vD (.int k a)), (y, vD (.int k b))], [], some s, some (vD (.int k (k.wrap (a + b)))), [], []⟩) : A6 P X ops dr Q (r + 1) i st log :=
 Ex (CD (t2 h).1) (t2 (t2 h).2).1 (t2 (t2 h).2).2 (Tc _ _ _ _ _ _) rfl next
theorem K1 {k : IntKind} {xt yt : TypeId} {x y : Operand} {a b : Int} {s : Nat} (h : (hd st.env ops i X.n, opd st.env x, opd st.env y) = (some (.binOp .sub xt x y yt, s, gs), some (vD (.int k a)), some (vD (.int k b)))) (next : Nx P X ops dr Q r i st log ⟨gs ++ [(x, vD (.int k a)), (y, vD (.int k b))], [], some s, some (vD (.int k (k.wrap (a - b)))), [], []⟩) : A6 P X ops dr Q (r + 1) i st log :=
 Ex (CD (t2 h).1) (t2 (t2 h).2).1 (t2 (t2 h).2).2 (Tp _ _ _ _ _ _) rfl next
theorem MR {k : IntKind} {xt yt : TypeId} {x y : Operand} {a b : Int} {s : Nat} (h : (hd st.env ops i X.n, opd st.env x, opd st.env y) = (some (.binOp .mul xt x y yt, s, gs), some (vD (.int k a)), some (vD (.int k b)))) (next : Nx P X ops dr Q r i st log ⟨gs ++ [(x, vD (.int k a)), (y, vD (.int k b))], [], some s, some (vD (.int k (k.wrap (a * b)))), [], []⟩) : A6 P X ops dr Q (r + 1) i st log :=
 Ex (CD (t2 h).1) (t2 (t2 h).2).1 (t2 (t2 h).2).2 (TE _ _ _ _ _ _) rfl next
theorem AN {k : IntKind} {xt yt : TypeId} {x y : Operand} {a b : Int} {s : Nat} (h : (hd st.env ops i X.n, opd st.env x, opd st.env y) = (some (.binOp .eql xt x y yt, s, gs), some (vD (.int k a)), some (vD (.int k b)))) (next : Nx P X ops dr Q r i st log ⟨gs ++ [(x, vD (.int k a)), (y, vD (.int k b))], [], some s, some (vD (.bool (a == b))), [], []⟩) : A6 P X ops dr Q (r + 1) i st log :=
 Ex (CD (t2 h).1) (t2 (t2 h).2).1 (t2 (t2 h).2).2 (SS _ _ _ _ _ _) rfl next
theorem BJ {k : IntKind} {xt yt : TypeId} {x y : Operand} {a b : Int} {s : Nat} (h : (hd st.env ops i X.n, opd st.env x, opd st.env y) = (some (.binOp .neq xt x y yt, s, gs), some (vD (.int k a)), some (vD (.int k b)))) (next : Nx P X ops dr Q r i st log ⟨gs ++ [(x, vD (.int k a)), (y, vD (.int k b))], [], some s, some (vD (.bool (a != b))), [], []⟩) : A6 P X ops dr Q (r + 1) i st log :=
 Ex (CD (t2 h).1) (t2 (t2 h).2).1 (t2 (t2 h).2).2 (TR _ _ _ _ _ _) rfl next
theorem Bc {k : IntKind} {xt yt : TypeId} {x y : Operand} {a b : Int} {s : Nat} (h : (hd st.env ops i X.n, opd st.env x, opd st.env y) = (some (.binOp .lss xt x y yt, s, gs), some (vD (.int k a)), some (vD (.int k b)))) (next : Nx P X ops dr Q r i st log ⟨gs ++ [(x, vD (.int k a)), (y, vD (.int k b))], [], some s, some (vD (.bool (decide (a < b)))), [], []⟩) : A6 P X ops dr Q (r + 1) i st log :=
 Ex (CD (t2 h).1) (t2 (t2 h).2).1 (t2 (t2 h).2).2 (Te _ _ _ _ _ _) rfl next
theorem MQ {k : IntKind} {xt yt : TypeId} {x y : Operand} {a b : Int} {s : Nat} (h : (hd st.env ops i X.n, opd st.env x, opd st.env y) = (some (.binOp .leq xt x y yt, s, gs), some (vD (.int k a)), some (vD (.int k b)))) (next : Nx P X ops dr Q r i st log ⟨gs ++ [(x, vD (.int k a)), (y, vD (.int k b))], [], some s, some (vD (.bool (decide (a ≤ b)))), [], []⟩) : A6 P X ops dr Q (r + 1) i st log :=
 Ex (CD (t2 h).1) (t2 (t2 h).2).1 (t2 (t2 h).2).2 (S9 _ _ _ _ _ _) rfl next
theorem Ei {k : IntKind} {xt yt : TypeId} {x y : Operand} {a b : Int} {s : Nat} (h : (hd st.env ops i X.n, opd st.env x, opd st.env y) = (some (.binOp .gtr xt x y yt, s, gs), some (vD (.int k a)), some (vD (.int k b)))) (next : Nx P X ops dr Q r i st log ⟨gs ++ [(x, vD (.int k a)), (y, vD (.int k b))], [], some s, some (vD (.bool (decide (b < a)))), [], []⟩) : A6 P X ops dr Q (r + 1) i st log :=
 Ex (CD (t2 h).1) (t2 (t2 h).2).1 (t2 (t2 h).2).2 (SM _ _ _ _ _ _) rfl next
theorem DO {k : IntKind} {xt yt : TypeId} {x y : Operand} {a b : Int} {s : Nat} (h : (hd st.env ops i X.n, opd st.env x, opd st.env y) = (some (.binOp .geq xt x y yt, s, gs), some (vD (.int k a)), some (vD (.int k b)))) (next : Nx P X ops dr Q r i st log ⟨gs ++ [(x, vD (.int k a)), (y, vD (.int k b))], [], some s, some (vD (.bool (decide (b ≤ a)))), [], []⟩) : A6 P X ops dr Q (r + 1) i st log :=
 Ex (CD (t2 h).1) (t2 (t2 h).2).1 (t2 (t2 h).2).2 (TC _ _ _ _ _ _) rfl next
theorem Nb {k : IntKind} {xt yt : TypeId} {x y : Operand} {a b : Int} {s : Nat} (h : (hd st.env ops i X.n, opd st.env x, opd st.env y) = (some (.binOp .and xt x y yt, s, gs), some (vD (.int k a)), some (vD (.int k b)))) (next : Nx P X ops dr Q r i st log ⟨gs ++ [(x, vD (.int k a)), (y, vD (.int k b))], [], some s, some (vD (.int k (FB k a b))), [], []⟩) : A6 P X ops dr Q (r + 1) i st log :=
 Ex (CD (t2 h).1) (t2 (t2 h).2).1 (t2 (t2 h).2).2 (Tj _ _ _ _ _ _) rfl next
theorem RF {k : IntKind} {xt yt : TypeId} {x y : Operand} {a b : Int} {s : Nat} (h : (hd st.env ops i X.n, opd st.env x, opd st.env y) = (some (.binOp .or xt x y yt, s, gs), some (vD (.int k a)), some (vD (.int k b)))) (next : Nx P X ops dr Q r i st log ⟨gs ++ [(x, vD (.int k a)), (y, vD (.int k b))], [], some s, some (vD (.int k (K7 k a b))), [], []⟩) : A6 P X ops dr Q (r + 1) i st log :=
 Ex (CD (t2 h).1) (t2 (t2 h).2).1 (t2 (t2 h).2).2 (Uz _ _ _ _ _ _) rfl next
theorem Hd {k : IntKind} {xt yt : TypeId} {x y : Operand} {a b : Int} {s : Nat} (h : (hd st.env ops i X.n, opd st.env x, opd st.env y) = (some (.binOp .andNot xt x y yt, s, gs), some (vD (.int k a)), some (vD (.int k b)))) (next : Nx P X ops dr Q r i st log ⟨gs ++ [(x, vD (.int k a)), (y, vD (.int k b))], [], some s, some (vD (.int k (Cl k a b))), [], []⟩) : A6 P X ops dr Q (r + 1) i st log :=
 Ex (CD (t2 h).1) (t2 (t2 h).2).1 (t2 (t2 h).2).2 (PC _ _ _ _ _ _) rfl next
theorem Ii {k k' : IntKind} {xt yt : TypeId} {x y : Operand} {a b : Int} {s : Nat} (h : (hd st.env ops i X.n, opd st.env x, opd st.env y) = (some (.binOp .shl xt x y yt, s, gs), some (vD (.int k a)), some (vD (.int k' b)))) (hc : 0 ≤ b) (next : Nx P X ops dr Q r i st log ⟨gs ++ [(x, vD (.int k a)), (y, vD (.int k' b))], [], some s, some (vD (.int k (DE k a b))), [], []⟩) : A6 P X ops dr Q (r + 1) i st log :=
 Ex (CD (t2 h).1) (t2 (t2 h).2).1 (t2 (t2 h).2).2 (TM _ _ _ _ _ _ _ hc) rfl next
theorem KP {k k' : IntKind} {xt yt : TypeId} {x y : Operand} {a b : Int} {s : Nat} (h : (hd st.env ops i X.n, opd st.env x, opd st.env y) = (some (.binOp .shr xt x y yt, s, gs), some (vD (.int k a)), some (vD (.int k' b)))) (hc : 0 ≤ b) (next : Nx P X ops dr Q r i st log ⟨gs ++ [(x, vD (.int k a)), (y, vD (.int k' b))], [], some s, some (vD (.int k (FM k a b))), [], []⟩) : A6 P X ops dr Q (r + 1) i st log :=
 Ex (CD (t2 h).1) (t2 (t2 h).2).1 (t2 (t2 h).2).2 (SP _ _ _ _ _ _ _ hc) rfl next
theorem Wj {k : IntKind} {xt yt : TypeId} {x y : Operand} {a b : Int} {s : Nat} (h : (hd st.env ops i X.n, opd st.env x, opd st.env y) = (some (.binOp .rem xt x y yt, s, gs), some (vD (.int k a)), some (vD (.int k b)))) (hc : b ≠ 0) (next : Nx P X ops dr Q r i st log ⟨gs ++ [(x, vD (.int k a)), (y, vD (.int k b))], [], some s, some (vD (.int k (a.tmod b))), [], []⟩) : A6 P X ops dr Q (r + 1) i st log :=
 Ex (CD (t2 h).1) (t2 (t2 h).2).1 (t2 (t2 h).2).2 (S3 _ _ _ _ _ _ hc) rfl next
theorem CM {xt : TypeId} {x : Operand} {b : Bool} {s : Nat} (h : (hd st.env ops i X.n, opd st.env x) = (some (.unOp .not xt x, s, gs), some (bD b))) (next : Nx P X ops dr Q r i st log ⟨gs ++ [(x, bD b)], [], some s, some (vD (.bool (!b))), [], []⟩) : A6 P X ops dr Q (r + 1) i st log :=
 W5 (CD (t2 h).1) (t2 h).2 (Uv _) rfl next
theorem Kt {xt yt : TypeId} {k k' : IntKind} {x : Operand} {a : Int} {s : Nat} (hs : (P.underlying xt).isSome = true) (ht : NC P yt k = true) (h : (hd st.env ops i X.n, opd st.env x) = (some (.convert xt yt x, s, gs), some (vD (.int k' a)))) (next : Nx P X ops dr Q r i st log ⟨gs ++ [(x, vD (.int k' a))], [], some s, some (vD (.int k (k.wrap a))), [], []⟩) : A6 P X ops dr Q (r + 1) i st log :=
 UM (CD (t2 h).1) (t2 h).2 (RG hs ht _ _) rfl next
theorem AG {α : Type} {f : α → List T} {xs : List α} {x : Operand} {s : Nat} {t el : TypeId} (ht : sliceB P t el = true) (h : (hd st.env ops i X.n, opd st.env x) = (some (.call ⟨.builtin .len, #[x], #[t]⟩, s, gs), some (one (.sl (xs.map f))))) (next : Nx P X ops dr Q r i st log ⟨gs ++ [(x, one (.sl (xs.map f)))], [], some s, some (vD (.int .i64 (xs.length : Int))), [], []⟩) : A6 P X ops dr Q (r + 1) i st log :=
 Uc (CD (t2 h).1) (t2 h).2 (.sl _) trivial (zB9 _) ht next
theorem PU {α : Type} {f : α → List T} {xs : List α} {x : Operand} {s b e : Nat} {t el : TypeId} (ht : sliceB P t el = true) (h : (hd st.env ops i X.n, opd st.env x, st.bx b) = (some (.call ⟨.builtin .len, #[x], #[t]⟩, s, gs), some (.e (.one (.own b))), some (.vec e (xs.map f)))) (next : Nx P X ops dr Q r i st log ⟨gs ++ [(x, .e (.one (.own b)))], [(b, .vec e (xs.map f))], some s, some (vD (.int .i64 (xs.length : Int))), [], []⟩) : A6 P X ops dr Q (r + 1) i st log :=
 Uc (CD (t2 h).1) (t2 (t2 h).2).1 (.own _ _ _) ⟨(t2 (t2 h).2).2, trivial⟩ (zB9 _) ht next
theorem BD {t : TypeId} {s : Nat} {z : Value} {zs : List Value} {pl : List (Nat × Nat)} {cells : List C} {parts : Array (Nat × Operand)} {ps : List (Nat × Operand × E)} (hz : Dn P t = some z) (hpl : GT P t = some pl) (h : (hd st.env ops i X.n, Vf st.env parts.toList, z.cells.toList, zs.all F3, Jn (pl[·]?) (zs.map fun v => C.pure (T.of v)) (ps.map fun p => (p.1, p.2.2))) = (some (.build t parts, s, gs), some ps, zs, true, some cells)) (next : Nx P X ops dr Q r i st log ⟨gs ++ F8 ps, [], some s, some (.e (.agg cells)), [], []⟩) : A6 P X ops dr Q (r + 1) i st log :=
 have q := Rt (t2 (t2 h).2).1
 TK ps (CD (t2 h).1) (by rw [← q.1]) q.2 hz (t2 (t2 (t2 h).2).2).1 (t2 (t2 (t2 (t2 h).2).2).2).1 hpl (t2 (t2 (t2 (t2 h).2).2).2).2 next
theorem Fm {t el : TypeId} {s n e : Nat} {z : Value} {rows : List (List T)} {parts : Array (Nat × Operand)} {ps : List (Nat × Operand × E)} (ht : sliceB P t el = true) (he : Gb P el e = true) (hz : Dn P el = some z) (h : (hd st.env ops i X.n, Vf st.env parts.toList, st.bx s, Tz 0 ps, ps.length, zF2 (n * e) 16777216, (ps.map fun p => (p.1, p.2.2)).mapM (fun p => p.2.ts), rows.all (fun row => row.length == e)) = (some (.buildSlice t n parts, s, gs), some ps, none, true, n, true, some rows, true)) (next : Nx P X ops dr Q r i st log ⟨gs ++ F8 ps, [], some s, some (.e (.one (.own s))), [(s, .vec e rows)], [s]⟩) : A6 P X ops dr Q (r + 1) i st log :=
 have q := Rt (t2 (t2 h).2).1
 have g := (t2 (t2 (t2 h).2).2).2
 NO ps (CD (t2 h).1) (by rw [← q.1]) q.2 (t2 (t2 (t2 h).2).2).1 ht he hz (Qz (t2 g).1) (t2 (t2 g).2).1 (zB5 (t2 (t2 (t2 g).2).2).1) (t2 (t2 (t2 (t2 g).2).2).2).1 (t2 (t2 (t2 (t2 g).2).2).2).2 next
theorem Ay {f s : Nat} {xs : List Operand} {ds0 ds : List D} {rv : List (Nat × List (List T))} {res : D} {ts : Array TypeId} (ns : List Nat) (hc : Ar P f ds rv res) (hf : Az P f = true) (h : (hd st.env ops i X.n, SB st.env xs, ds0.map D.nrm, ds.all OI, ns.length, GE ns && (ns.all fun n => !Bt n), ns.all (fun n => Xe (st.bx n)), res.names.all (fun b => decide (b < rv.length))) = (some (.call ⟨.value (.func f), xs.toArray, ts⟩, s, gs), some ds0, ds, true, rv.length, true, true, true)) (next : Nx P X ops dr Q r i st log ⟨gs ++ FN xs ds0, [], some s, some (res.ren (nm ns)), Hm ns rv, ns⟩) : A6 P X ops dr Q (r + 1) i st log :=
 have q := Nq (t2 (t2 h).2).1
 have g := (t2 (t2 (t2 h).2).2).2
 UC ns hc (CD (t2 h).1) hf q.1 q.2 (t2 (t2 (t2 h).2).2).1 (t2 g).1 (t2 (t2 g).2).1 (M0 (t2 (t2 (t2 g).2).2).1) (NX (t2 (t2 (t2 (t2 g).2).2).2).1) (t2 (t2 (t2 (t2 g).2).2).2).2 next
theorem F5 {f s : Nat} {xs : List Operand} {ds0 ds : List D} {rv : List (Nat × List (List T))} {res : D} {ts : Array TypeId} {bs : List (Nat × Bj)} (ns lb : List Nat) (hc : Ar P f ds rv res) (hf : Az P f = true) (hfv : O0 rv) (h : (hd st.env ops i X.n, SB st.env xs, WL st.bx lb, ds0.map (fun d => (d.lend bs).nrm), ds.all OI, ns.length, GE ns && (ns.all fun n => !Bt n), ns.all (fun n => Xe (st.bx n)), res.flat, res.names.all (fun b => decide (b < rv.length))) = (some (.call ⟨.value (.func f), xs.toArray, ts⟩, s, gs), some ds0, some bs, ds, true, rv.length, true, true, true, true)) (next : Nx P X ops dr Q r i st log ⟨gs ++ FN xs ds0, bs, some s, some (res.ren (nm ns)), Hm ns rv, ns⟩) : A6 P X ops dr Q (r + 1) i st log :=
 have q := Nq (t2 (t2 h).2).1
 have g := (t2 (t2 (t2 h).2).2).2
 have g2 := (t2 (t2 (t2 g).2).2).2
 Td ns bs hc (CD (t2 h).1) hf q.1 q.2 (R1 (t2 (t2 (t2 h).2).2).1) (t2 g).1 (t2 (t2 g).2).1 (t2 (t2 (t2 g).2).2).1 (M0 (t2 g2).1) (NX (t2 (t2 g2).2).1) (t2 (t2 (t2 g2).2).2).1 hfv (t2 (t2 (t2 g2).2).2).2 next
theorem Kr {α : Type} {f : α → List T} {xs : List α} {ys : List α} {x y : Operand} {t t2' el el2 s e bytes b b2 : Nat} {z : Value} (ht : sliceB P t el = true) (ht2 : sliceB P t2' el2 = true) (he : Gb P el e = true) (hby : Fk P el bytes = true) (hz : Dn P el = some z) (hlim : xs.length + ys.length ≤ FR) (h : (hd st.env ops i X.n, opd st.env x, st.bx b, opd st.env y, st.bx b2, st.bx s, z.cells.size, zF2 bytes 4096, [b].all (fun b => !Bt b)) = (some (.call ⟨.builtin .append, #[x, y], #[t, t2']⟩, s, gs), some (.e (.one (.own b))), some (.vec e (xs.map f)), some (.e (.one (.own b2))), some (.vec e (ys.map f)), none, e, true, true)) (next : Nx P X ops dr Q r i st log ⟨gs ++ [(x, .e (.one (.own b))), (y, .e (.one (.own b2)))], [(b, .vec e (xs.map f))] ++ [(b2, .vec e (ys.map f))], some s, some (.e (.one (.own s))), (s, .vec e ((xs ++ ys).map f)) :: Ff [b], [s]⟩) : A6 P X ops dr Q (r + 1) i st log :=
 OM (CD (t2 h).1) (t2 (t2 h).2).1 (.own _ _ _) ⟨(t2 (t2 (t2 h).2).2).1, trivial⟩ (t2 (t2 (t2 (t2 h).2).2).2).1 (.own _ _ _) ⟨(t2 (t2 (t2 (t2 (t2 h).2).2).2).2).1, trivial⟩ (t2 (t2 (t2 (t2 (t2 (t2 h).2).2).2).2).2).1 ht ht2 he hby (zB5 (t2 (t2 (t2 (t2 (t2 (t2 (t2 (t2 h).2).2).2).2).2).2).2).1) hz (t2 (t2 (t2 (t2 (t2 (t2 (t2 h).2).2).2).2).2).2).1 (by simpa using hlim) (by simp) (t2 (t2 (t2 (t2 (t2 (t2 (t2 (t2 h).2).2).2).2).2).2).2).2 next
theorem KA {α : Type} {f : α → List T} {xs : List α} {ys : List α} {x y : Operand} {t t2' el el2 s e bytes b : Nat} {z : Value} (ht : sliceB P t el = true) (ht2 : sliceB P t2' el2 = true) (he : Gb P el e = true) (hby : Fk P el bytes = true) (hz : Dn P el = some z) (hf : ∀ x, (f x).length = e) (hlim : xs.length + ys.length ≤ FR) (h : (hd st.env ops i X.n, opd st.env x, st.bx b, opd st.env y, st.bx s, z.cells.size, zF2 bytes 4096, [b].all (fun b => !Bt b)) = (some (.call ⟨.builtin .append, #[x, y], #[t, t2']⟩, s, gs), some (.e (.one (.own b))), some (.vec e (xs.map f)), some (one (.sl (ys.map f))), none, e, true, true)) (next : Nx P X ops dr Q r i st log ⟨gs ++ [(x, .e (.one (.own b))), (y, one (.sl (ys.map f)))], [(b, .vec e (xs.map f))] ++ [], some s, some (.e (.one (.own s))), (s, .vec e ((xs ++ ys).map f)) :: Ff [b], [s]⟩) : A6 P X ops dr Q (r + 1) i st log :=
 OM (CD (t2 h).1) (t2 (t2 h).2).1 (.own _ _ _) ⟨(t2 (t2 (t2 h).2).2).1, trivial⟩ (t2 (t2 (t2 (t2 h).2).2).2).1 (.sl _ _ (Ix hf _)) trivial (t2 (t2 (t2 (t2 (t2 h).2).2).2).2).1 ht ht2 he hby (zB5 (t2 (t2 (t2 (t2 (t2 (t2 (t2 h).2).2).2).2).2).2).1) hz (t2 (t2 (t2 (t2 (t2 (t2 h).2).2).2).2).2).1 (by simpa using hlim) (by simp) (t2 (t2 (t2 (t2 (t2 (t2 (t2 h).2).2).2).2).2).2).2 next
end run
end Go.Lift
namespace Go.Lift
open Go.RowKit
variable {P : Program}
def WC (P : Program) : List D → List D → Prop
 | [], [] => True
 | a :: ar, b :: bs => (∀ (w : World) (G : Gh) (v : Value), FG P w G v a → FG P w G v b) ∧ WC P ar bs
 | _, _ => False
theorem WC.get : ∀ {ar bs : List D}, WC P ar bs → ar.length = bs.length ∧ ∀ (j : Nat) (b : D), bs[j]? = some b → ∃ a, ar[j]? = some a ∧ ∀ (w : World) (G : Gh) (v : Value), FG P w G v a → FG P w G v b
 | [], [], _ => ⟨rfl, fun j b h => by simp at h⟩
 | a :: ar, b :: bs, h => by
  obtain ⟨h1, h2⟩ := WC.get h.2
  refine ⟨by simp [h1], fun j c hj => ?_⟩
  cases j with
  | zero => simp at hj; subst hj; exact ⟨a, rfl, h.1⟩
  | succ j => obtain ⟨a', g1, g2⟩ := h2 j c (by simpa using hj); exact ⟨a', by simpa using g1, g2⟩
theorem DG.weak {f : FuncId} {ds ds' : List D} {lent : List (Bj × Bj)} {rv : List Bj} {res : D} (h : DG P f ds lent rv res) (hp : WC P ds' ds) : DG P f ds' lent rv res := by
 intro w G vs h1 hgk h2 h3 h4 hlen hargs
 obtain ⟨g1, g2⟩ := hp.get
 refine h w G vs h1 hgk h2 h3 h4 (by rw [hlen, g1]) fun j d hj => ?_
 obtain ⟨a, e1, e2⟩ := g2 j d hj
 exact e2 w G _ (hargs j a e1)
end Go.Lift
namespace Go.Lift
open Go.RowKit
variable {P : Program} {X : Gt} {ops : Array Oper}
section run
variable {dr : Bool} {Q : St → Prop} {r i : Nat} {st : St} {log : List (Nat × B5)} {gs : List (Operand × D)}
end run
end Go.Lift
namespace Go.Lift
abbrev iC (x : Int) : C := .pure (.val (.int .i64 x))
abbrev sC (l : List (List T)) : C := .pure (.sl l)
abbrev iD (x : Int) : D := .e (.one (.pure (.val (.int .i64 x))))
abbrev pD (t : T) : D := .e (.one (.pure t))
abbrev oD (c : C) : D := .e (.one c)
theorem tv : True := trivial
end Go.Lift
namespace Go.Lift
open Go.RowKit
variable {P : Program} {X : Gt} {ops : Array Oper}
section run
variable {dr : Bool} {Q : St → Prop} {r i : Nat} {st : St} {log : List (Nat × B5)} {o : Oper} {gs : List (Operand × D)}
end run
end Go.Lift
namespace Go.Lift
open List renaming mem_of_getElem? → lM
open List renaming getD_eq_getElem?_getD → lD
open Go.RowKit
variable {P : Program} {X : Gt} {ops : Array Oper}
def HJ (P : Program) (f : FuncId) (args : List D) (tk : Bj) (rv : List Bj) (res : D) : Prop :=
 ∀ (w : World) (G : Gh) (vs : Array Value), (∀ β, G.S β → β < w.heap.size) → Si P w G.S → DV P w G 90900 tk → (∀ β, G.has 90900 β → β < w.heap.size ∧ ¬ G.S β) →
  vs.size = args.length → (∀ (j : Nat) (d : D), args[j]? = some d → FG P w G (Ap vs j) d) →
  Calls P f vs w fun e w' => ∃ v G', e = .returned v ∧ B7 (fun β => G.has 90900 β) w.heap.size w w' ∧ (∀ β, G.S β → G'.S β) ∧ (∀ β, G'.S β → G.S β ∨ (w.heap.size ≤ β ∧ β < w'.heap.size)) ∧ FG P w' G' v res ∧
   (∀ (k : Nat) (x : Bj), rv[k]? = some x → DV P w' G' k x) ∧
   (∀ k β, k < rv.length → G'.has k β → (w.heap.size ≤ β ∨ G.has 90900 β) ∧ β < w'.heap.size ∧ ¬ G'.S β) ∧
   (∀ k l β, k < rv.length → l < rv.length → G'.has k β → G'.has l β → k = l)
def nt (b : Nat) (ns : List Nat) (c : Nat) : Nat := if c = 90900 then b else ns.getD c 0
theorem Nz {b : Nat} {ns : List Nat} {k : Nat} (h : k < 90900) : nt b ns k = nm ns k := by
 unfold nt nm; rw [if_neg (by omega)]
theorem J5 {bx : Nat → Option Bj} {c : Nat} : ∀ {l1 l2 : List (Nat × Bj)}, Be bx (l1 ++ l2) c = Be (Be bx l2) l1 c
 | [], l2 => rfl
 | p :: l1, l2 => by
  simp only [zG0, Be]
  rw [J5 (l1 := l1)]
section run
variable {dr : Bool} {Q : St → Prop} {r i : Nat} {st : St} {log : List (Nat × B5)} {o : Oper} {gs : List (Operand × D)}
theorem Tk {f s : Nat} {xs : List Operand} {ds0 ds : List D} {tk : Bj} {rv : List Bj} {res : D} {ts : Array TypeId} (b : Nat) (ns : List Nat) (hc : HJ P f ds tk rv res) (hat : At st.env ops i X.n (.call ⟨.value (.func f), xs.toArray, ts⟩) s gs)
  (hf : Az P f = true) (hl : xs.length = ds0.length) (hx : D1 st.env (FN xs ds0)) (hds : ds0.map D.nrm = ds.map (D.ren (nt b ns)))
  (hbb : st.bx b = some tk) (htk : (tk.real && tk.names.isEmpty) = true) (hns : ns.length = rv.length) (hnd : GE ns = true) (hkind : (ns.all fun n => (Bt n == Bt b) && !K2 n) = true) (hnew : JA st.bx ns)
  (hlim : zF2 rv.length 1000 = true) (_hdn : (ds.all fun d => d.names.all fun c => c == 90900) = true)
  (hnm : ((res.names.all fun c => Nat.blt c rv.length) && rv.all fun x => x.names.isEmpty) = true)
  (next : A6 P X ops dr Q r (i + 1) (B5.upd ⟨gs ++ FN xs ds0, [(b, tk)], some s, some (res.ren (nt b ns)), newB (nt b ns) ns rv ++ Ff [b], ns⟩ st) ((i, ⟨gs ++ FN xs ds0, [(b, tk)], some s, some (res.ren (nt b ns)), newB (nt b ns) ns rv ++ Ff [b], ns⟩) :: log)) : A6 P X ops dr Q (r + 1) i st log := by
 obtain ⟨o, ho, hop, hd, hn, hg, hgp⟩ := hat.out
 have hnd := Ee hnd
 have hlim2 := zB5 hlim
 rw [zA1] at hnm htk
 obtain ⟨hnmR, hnmV⟩ := hnm
 have htkn : tk.names = [] := List.isEmpty_iff.1 htk.2
 refine A6.step next ⟨Aj.2 ⟨hgp, hx⟩, ⟨hbb, trivial⟩, hnew⟩ ?_
 intro st a w K Q' hs hpre hK
 obtain ⟨G, hs⟩ := hs
 have hx := (Aj.1 hpre.r).2
 have hw := hs.wanted hg (Aj.1 hpre.r).1
 have hnew := hpre.n
 have hbb : st.bx b = some tk := hpre.b.1
 have hnew' : ∀ c, c ∈ ns → st.bx c = none := by
  have : ∀ {l : List Nat}, JA st.bx l → ∀ c, c ∈ l → st.bx c = none := by
   intro l
   induction l with
   | nil => intro _ c hc; cases hc
   | cons b l ih =>
    intro h c hc
    rcases zB6.1 hc with e | e
    ·subst e; exact h.1
    ·exact ih h.2 c e
  exact this hnew
 have hbns : b ∉ ns := fun hm => by rw [hnew' b hm] at hbb; cases hbb
 unfold wpOp
 rw [ho]
 simp only [hw, if_true]
 refine .inl ?_
 unfold Oper.wp
 have hrun : (execOp a.eval o).run P w = .ok (.enter f (xs.toArray.map a.eval)) w := by
  simp only [execOp, hop]
  exact Hb hf rfl
 rw [hrun]
 show Calls P f (xs.toArray.map a.eval) w _
 let Gc : Gh := { S := G.S, loc := fun c => G.loc (nt b ns c), hd := fun c => G.hd (nt b ns c), more := fun c => G.more (nt b ns c) }
 have hGc : ∀ β, (Gc.has 90900 β ↔ G.has b β) := fun β => Iff.rfl
 have hbr : (tk.ren (nt b ns)) = tk := by
  cases tk with
  | box cs =>
   have : cs.map (C.ren (nt b ns)) = cs := by
    have h0 : Db cs = [] := htkn
    refine (zG7 fun c hc => ?_).trans (List.map_id cs)
    have hcn : c.names = [] := zG3.2 fun x hx => by
     have := A4.2 ⟨c, hc, hx⟩
     rw [h0] at this; cases this
    cases c with
    | cls f caps =>
     refine congrArg (C.cls f) ?_
     refine (zG7 fun c hc => ?_).trans (List.map_id caps)
     have hcn2 : c.names = [] := zG3.2 fun x hx => by
      have := EB.2 ⟨c, hc, hx⟩
      rw [show Eu caps = [] from hcn] at this; cases this
     cases c <;> first | rfl | (simp [Ih.names] at hcn2)
    | _ => first | rfl | (simp [C.names] at hcn)
   simp only [Bj.ren]; rw [this]
  | hol e cols i k c rows => simp [Bj.names] at htkn
  | _ => rfl
 refine (hc w Gc (xs.toArray.map a.eval) hs.S_lt hs.gok ?_ ?_ ?_ ?_).mono ?_
 ·refine G8 (f := nt b ns) ?_
  rw [hbr]
  exact hs.blk _ _ hbb
 ·intro β hβ
  exact (hs.at_ok _ _ β hbb htk.1 hβ).2
 ·have h1 := congrArg zG1 hds
  simp at h1
  simp; omega
 ·intro j d hj
  have hj2 : (ds.map (D.ren (nt b ns)))[j]? = some (d.ren (nt b ns)) := by rw [zA5, hj]; rfl
  rw [← hds, zA5] at hj2
  obtain ⟨d0, hj0, hd0⟩ : ∃ d0, ds0[j]? = some d0 ∧ d0.nrm = d.ren (nt b ns) := by
   cases hx0 : ds0[j]? with
   | none => rw [hx0] at hj2; cases hj2
   | some d0 => rw [hx0] at hj2; exact ⟨d0, rfl, by simpa using hj2⟩
  have hlt := AA hj0
  have hxj : xs[j]? = some (xs[j]'(by omega)) := by simp [show j < xs.length from by omega]
  have hop' := GZ hl hx j _ d0 hxj hj0
  have hcell : Ap (xs.toArray.map a.eval) j = a.eval (xs[j]'(by omega)) := by simp [Ap, show j < xs.length from by omega]
  rw [hcell]
  refine Hg (f := nt b ns) ?_
  rw [← hd0]
  exact (hs.opd hop').nrm
 ·rintro e w' ⟨v, G', rfl, hbel, hS1, hS2, hres', hvec, hvat, hvinj⟩
  show K (a.put o.dst v) w'
  rw [hd]
  let G2 : Gh := { S := G'.S, loc := fun c => if c ∈ ns then G'.loc (ns.idxOf c) else G.loc c, hd := fun c => if c ∈ ns then G'.hd (ns.idxOf c) else G.hd c, more := fun c => if c ∈ ns then G'.more (ns.idxOf c) else G.more c }
  have hidx : ∀ k, k < ns.length → ns.idxOf (nm ns k) = k := by
   intro k hk
   have hm := D4 hk
   have h1 : ns.idxOf (nm ns k) < ns.length := zG8 hm
   refine LB hnd h1 hk ?_
   have h2 := zI7 h1
   show ns.getD (ns.idxOf (nm ns k)) 0 = nm ns k
   rw [lD, zB3 h1, zC2, h2]
  have hvia : G'.via G2 (nt b ns) (fun c => c < rv.length) := by
   refine ⟨fun β h => h, fun c hc => ?_, fun c hc => ?_, fun c hc => ?_⟩ <;>
   ·rw [Nz (by omega)]
    simp only [G2]; rw [if_pos (D4 (by omega)), hidx c (by omega)]
  have hext : G.ext G2 (fun b => (st.bx b).isSome = true) := by
   have : ∀ b, (st.bx b).isSome = true → b ∉ ns := fun b hb hm => by rw [hnew' b hm] at hb; cases hb
   exact ⟨fun β h => hS1 β h, fun b hb => by simp only [G2]; rw [if_neg (this b hb)], fun b hb => by simp only [G2]; rw [if_neg (this b hb)], fun b hb => by simp only [G2]; rw [if_neg (this b hb)]⟩
  have hatb := fun β h => hs.at_ok b tk β hbb htk.1 h
  have hwS : ∀ β, G.S β → w'.heap[β]? = w.heap[β]? := fun β hβ => hbel.block β (hs.S_lt β hβ) fun h => (hatb β h).2.2 hβ
  have hsz := hbel.size
  have hle := hs.below.size
  have hng := fun c => J3 (f := nt b ns) (bx := Be st.bx (Ff [b])) (ns := ns) (rv := rv) (c := c) hns hnd
  have hbx' : ∀ c, Be st.bx (newB (nt b ns) ns rv ++ Ff [b]) c = Be (Be st.bx (Ff [b])) (newB (nt b ns) ns rv) c := fun c => J5
  have hblk : ∀ c k, Be st.bx (newB (nt b ns) ns rv ++ Ff [b]) c = some k →
    (c ∉ ns ∧ c = b ∧ k = .gone) ∨ (c ∉ ns ∧ c ≠ b ∧ st.bx c = some k) ∨ (∃ m x, m < ns.length ∧ nm ns m = c ∧ rv[m]? = some x ∧ k = x.ren (nt b ns)) := by
   intro c k hc
   rw [hbx'] at hc
   by_cases hm2 : c ∈ ns
   ·obtain ⟨m, hm1, hm3⟩ := Jr hm2
    have hrx : rv[m]? = some (rv[m]'(by omega)) := by simp [show m < rv.length from by omega]
    have := (hng c).2 m _ hrx
    rw [hm3, hc] at this
    exact .inr (.inr ⟨m, _, hm1, hm3, hrx, by simpa using this⟩)
   ·rw [(hng c).1 hm2] at hc
    rw [Iz] at hc
    by_cases e : c = b
    ·rw [if_pos (by simp [e])] at hc; cases hc; exact .inl ⟨hm2, e, rfl⟩
    ·rw [if_neg (by simp [e])] at hc; exact .inr (.inl ⟨hm2, e, hc⟩)
  have hlive0 : ∀ c, (st.bx c).isSome = true → (Be st.bx (newB (nt b ns) ns rv ++ Ff [b]) c).isSome = true := fun c hc => Jx hc
  have hdom : ∀ c, c < rv.length → (Be st.bx (newB (nt b ns) ns rv ++ Ff [b]) (nt b ns c)).isSome = true := by
   intro c hb
   rw [hbx', Nz (by omega), (hng (nm ns c)).2 c _ (show rv[c]? = some rv[c] by simp [hb])]; rfl
  have hxn0 : ∀ x, x ∈ rv → x.names = [] := fun x hx => List.isEmpty_iff.1 (zA2.1 hnmV x hx)
  have hrenB : ∀ x, x ∈ rv → (x.ren (nt b ns)).names = [] := by
   intro x hx
   have h0 := hxn0 x hx
   cases x with
   | box cs =>
    refine zG3.2 fun c hc => ?_
    obtain ⟨c1, hc1, hb⟩ := A4.1 hc
    obtain ⟨c0, h1, rfl⟩ := zD8.1 hc1
    obtain ⟨b0, h2, h3⟩ := Hy hb
    have : b0 ∈ Db cs := A4.2 ⟨c0, h1, h2⟩
    have h0 : Db cs = [] := h0
    rw [h0] at this; cases this
   | hol e cols i0 k0 c rs => simp [Bj.names] at h0
   | _ => rfl
  have hhasN : ∀ m β, m < ns.length → (G2.has (nm ns m) β ↔ G'.has m β) := fun m β hm => by
   have := hvia.has (β := β) (show m < rv.length by omega)
   rwa [Nz (by omega)] at this
  have hnk : ∀ m, m < ns.length → Bt (nm ns m) = Bt b ∧ K2 (nm ns m) = false := fun m hm => by
   have := zA2.1 hkind _ (D4 hm)
   rw [zA1] at this
   exact ⟨beq_iff_eq.1 this.1, by simpa using this.2⟩
  have key : Cu P X G2 ⟨st.env, Be st.bx (newB (nt b ns) ns rv ++ Ff [b])⟩ a w' := by
   refine hs.frameF hlive0 hext hwS ?_ ?_ ?_ ?_ ?_ ?_ (fun c hc => by
    have : c ∉ ns := fun hm => by
     obtain ⟨m, hm1, rfl⟩ := Jr hm
     rw [(hnk m hm1).2] at hc; cases hc
    simp only [G2]; rw [if_neg this, if_neg this, if_neg this]; exact ⟨rfl, rfl, rfl⟩)
   ·intro c k hc
    rcases hblk c k hc with ⟨_, rfl, rfl⟩ | ⟨_, h0, h1⟩ | ⟨m, x, h1, h2, h3, h4⟩
    ·exact .inr ⟨trivial, fun c hc => by cases hc⟩
    ·exact .inl ⟨h1, fun β hr hβ => hbel.block β (hs.at_ok c k β h1 hr hβ).2.1 fun hL => h0 (hs.at_inj _ _ _ _ β h1 hbb hr htk.1 hβ hL)⟩
    ·subst h4
     have hxm := lM h3
     refine .inr ⟨?_, fun c' hc' => ?_⟩
     ·have := (hvec m x h3).ren hvia (show m < rv.length by omega) (fun c hc => by rw [hxn0 x hxm] at hc; cases hc)
      rwa [Nz (by omega), h2] at this
     ·rw [hrenB x hxm] at hc'; cases hc'
   ·intro c k β hc hr hβ
    rcases hblk c k hc with ⟨_, rfl, rfl⟩ | ⟨_, h0, h1⟩ | ⟨m, x, h1, h2, h3, h4⟩
    ·cases hr
    ·have hβ := (hext.has (by rw [h1]; rfl)).1 hβ
     have := hs.at_ok c k β h1 hr hβ
     refine ⟨this.1, by omega, fun h => ?_⟩
     rcases hS2 β h with h | h
     ·exact this.2.2 h
     ·omega
    ·rw [← h2, hhasN m β h1] at hβ
     have := hvat m β (by omega) hβ
     have hk := (hnk m h1).1
     rw [h2] at hk
     refine ⟨?_, this.2.1, this.2.2⟩
     rcases this.1 with h5 | h5
     ·exact ⟨fun _ => by omega, .inl (by omega)⟩
     ·have h6 := (hatb β h5).1
      exact ⟨fun hf => h6.1 (hk ▸ hf), h6.2⟩
   ·intro c c' k k' β hc hc' hr hr' hβ hβ'
    have old : ∀ c k, Be st.bx (newB (nt b ns) ns rv ++ Ff [b]) c = some k → k.real = true → G2.has c β → (c ≠ b ∧ st.bx c = some k ∧ G.has c β) ∨ ∃ m, m < ns.length ∧ nm ns m = c ∧ G'.has m β := by
     intro c k hc hr hβ
     rcases hblk c k hc with ⟨_, rfl, rfl⟩ | ⟨_, h0, h1⟩ | ⟨m, x, h1, h2, h3, h4⟩
     ·cases hr
     ·exact .inl ⟨h0, h1, (hext.has (by rw [h1]; rfl)).1 hβ⟩
     ·rw [← h2, hhasN m β h1] at hβ
      exact .inr ⟨m, h1, h2, hβ⟩
    have cross : ∀ c k m, c ≠ b → st.bx c = some k → k.real = true → G.has c β → m < ns.length → G'.has m β → False := by
     intro c k m h0 h1 h2 h3 hm h5
     have h6 := hvat m β (by omega) h5
     have h7 := (hs.at_ok c k β h1 h2 h3).2.1
     rcases h6.1 with h | h
     ·omega
     ·exact h0 (hs.at_inj _ _ _ _ β h1 hbb h2 htk.1 h3 h)
    rcases old c k hc hr hβ with ⟨h0, h1, h3⟩ | ⟨m, h1, h2, h3⟩ <;> rcases old c' k' hc' hr' hβ' with ⟨h0', h1', h3'⟩ | ⟨m', h1', h2', h3'⟩
    ·exact hs.at_inj c c' k k' β h1 h1' hr hr' h3 h3'
    ·exact (cross c k m' h0 h1 hr h3 h1' h3').elim
    ·exact (cross c' k' m h0' h1' hr' h3' h1 h3).elim
    ·have := hvinj m m' β (by omega) (by omega) h3 h3'
     rw [← h2, ← h2', this]
   ·intro β h
    rcases hS2 β h with h | h
    ·have := hs.S_lt β h; omega
    ·exact h.2
   ·intro β h
    rcases hS2 β h with h | h
    ·exact hs.S_src β h
    ·exact .inr (by omega)
   ·refine hs.below.trans ⟨hbel.os, hbel.tape, hbel.output, hbel.size, hbel.drawn, fun k hk hnl => hbel.block k (by omega) fun hL => ?_⟩
    rcases (hatb k hL).1.2 with h | h
    ·omega
    ·exact hnl h
  have hrn : ∀ c, c ∈ res.names → c < rv.length := fun c hc => by
   have := zA2.1 hnmR c hc
   rwa [zF4] at this
  refine hK _ _ ⟨G2, key.put (some s) (some (res.ren (nt b ns))) v (by intro t e; cases e; exact hn) ?_⟩
  rintro d ⟨⟩
  refine ⟨hres'.ren hvia hrn, fun c hb => ?_⟩
  obtain ⟨b0, h1, h2⟩ := Hr hb
  rw [h2]
  exact hdom b0 (hrn b0 h1)
end run
end Go.Lift
namespace Go.Lift
open Go.RowKit
variable {P : Program} {X : Gt} {ops : Array Oper}
end Go.Lift
namespace Go.Lift
open Go.RowKit
variable {P : Program} {X : Gt} {ops : Array Oper}
section run
variable {dr : Bool} {Q : St → Prop} {r i : Nat} {st : St} {log : List (Nat × B5)} {o : Oper} {gs : List (Operand × D)}
end run
end Go.Lift
namespace Go.Lift
open Go.RowKit
variable {P : Program} {X : Gt} {ops : Array Oper}
section run
variable {dr : Bool} {Q : St → Prop} {r i : Nat} {st : St} {log : List (Nat × B5)} {o : Oper} {gs : List (Operand × D)}
end run
end Go.Lift
namespace Go.Lift
open Go.RowKit
variable {P : Program} {X : Gt} {ops : Array Oper}
section run
variable {dr : Bool} {Q : St → Prop} {r i : Nat} {st : St} {log : List (Nat × B5)} {o : Oper} {gs : List (Operand × D)}
end run
end Go.Lift
namespace Go.Lift
open Go.RowKit
variable {P : Program} {X : Gt} {ops : Array Oper}
section run
variable {dr : Bool} {Q : St → Prop} {r i : Nat} {st : St} {log : List (Nat × B5)} {o : Oper} {gs : List (Operand × D)}
end run
end Go.Lift
namespace Go.Lift
open Go.RowKit
variable {P : Program} {X : Gt}
theorem Bp {α : Type} {c : Operand} {x y : Code} {Q : Exit → St → Prop} {st : St} {b : Bool} {e1 e2 : Option α} {v : α} (h : AJ b e1 e2 = some v) (ht : e1 = some v → W P X x Q st) (hf : e2 = some v → W P X y Q st) (hc : opd st.env c = some (bD b) := by exact rfl) : W P X (.cond c x y) Q st :=
 UB hc (fun k => ht (Ql k h)) (fun k => hf (Qs k h))
theorem CS {ops : Array Oper} {dr : Bool} {Q : St → Prop} {r i : Nat} {st : St} {log : List (Nat × B5)} {α : Type} {b : Bool} {e1 e2 : Option α} {v : α} (t : Nat) (h : AJ b e1 e2 = some v) (hx : st.env t = some (bD b)) (h1 : e1 = some v → A6 P X ops dr Q r i (St.put st (some t) (some (bD true))) log) (h2 : e2 = some v → A6 P X ops dr Q r i (St.put st (some t) (some (bD false))) log) : A6 P X ops dr Q r i st log :=
 TG hx (fun k => h1 (Ql k h)) (fun k => h2 (Qs k h))
theorem sn {V R : Type} {J : V → Option R} {r : R} {S : V → St} {s : St} {v : V} {el : List (Nat × D)} {bl : List (Nat × Bj)} (l : List (Nat × Nat)) (h : J v = some r) (e : S v = mk el bl := by exact rfl) (h1 : (V2 s.env el, VW (rn l) s.bx bl) = (Vn (rn l) el, Wc (rn l) bl) := by exact rfl) (h2 : ((GE ((Eg bl).map (rn l)) && KH (rn l) (Eg bl)) && (Nf (Eg bl) el && M9 (Eg bl) bl)) = true := by exact rfl) : ∃ v, J v = some r ∧ Fj P X s (S v) :=
 ⟨v, h, e ▸ sm l el bl h1 h2⟩
theorem Xz {y : Code} {id : Nat} {ops : Array Oper} {dr : Bool} {Q : Exit → St → Prop} {st : St} {n : Nat} (hm : P.follows .mixedOrders = true) (hn : ops.size = n)
  (h : A6 P X ops dr (fun st' => W P X y Q st') n 0 st []) : W P X (.seq (.region id ops dr) y) Q st :=
 AP (Ak hm hn h)
theorem BW {G : Prop} {α β : Type} {xs : List α} {i : Int} {f : α → Option β} {r : β} (h : (Br xs i).bind f = some r) (k : ∀ x, 0 ≤ i → xs[i.toNat]? = some x → f x = some r → G) : G := by
 obtain ⟨x, a, b, c⟩ := RP h
 exact k x a b c
theorem Cg {G : Prop} {α β : Type} {x : Option α} {f : α → Option β} {r : β} (h : x.bind f = some r) (k : ∀ a, x = some a → f a = some r → G) : G := by
 obtain ⟨a, b, c⟩ := bind_some h
 exact k a b c
theorem HH {G : Prop} {β : Type} {p : Prop} [Decidable p] {f : Unit → Option β} {r : β} (h : (EY p).bind f = some r) (k : p → f () = some r → G) : G := k (Gx h).1 (Gx h).2
section
variable {ops : Array Oper} {dr : Bool} {Q : St → Prop} {r i : Nat} {st : St} {log : List (Nat × B5)} {gs : List (Operand × D)}
theorem qe {x : Operand} {d : D} {s : Nat} (h : (hd st.env ops i X.n, opd st.env x) = (some (.assign x, s, gs), some d)) (k : Q (B5.upd ⟨gs ++ [(x, d)], [], some s, some d, [], []⟩ st)) : A6 P X ops false Q (0 + 1) i st log :=
 qa h (Ac k)
def SA (n : Nat) (ops : Array Oper) (i : Nat) (st : St) : Option B5 :=
 match (match Vb ops i n with
  | some (_, s, t, want) => (match st.env t with
   | some (.e (.one (.pure (.val (.bool b))))) => (match b, want with
    | true, false => some (s, t, want)
    | false, true => some (s, t, want)
    | _, _ => none)
   | _ => none)
  | none => none) with
 | some (s, t, want) => some ⟨[(.tmp t, bD (!want))], [], some s, some uD, [], []⟩
 | none => match hd st.env ops i n with
  | some (.move x, s, gs) => (opd st.env x).map fun d => ⟨gs ++ [(x, d)], [], some s, some d, [], []⟩
  | _ => none
def S7 (n : Nat) (ops : Array Oper) : Nat → Nat → St → List (Nat × B5) → Option (St × List (Nat × B5))
 | 0, _, st, log => some (st, log)
 | k + 1, i, st, log => match SA n ops i st with
  | none => none
  | some l => S7 n ops k (i + 1) (B5.upd l st) ((i, l) :: log)
theorem RZ {l : B5} (h : SA X.n ops i st = some l) (next : Nx P X ops dr Q r i st log l) : A6 P X ops dr Q (r + 1) i st log := by
 unfold SA at h
 split at h
 ·rename_i s t want hh
  split at hh
  ·rename_i j s' t' want' ha
   split at hh
   ·rename_i b hb
    split at hh
    ·cases hh; cases h; exact qn (want := false) (by rw [ha, hb]; rfl) next
    ·cases hh; cases h; exact qn (want := true) (by rw [ha, hb]; rfl) next
    ·cases hh
   ·cases hh
  ·cases hh
 ·split at h
  ·rename_i x s gs' hh
   cases hd' : opd st.env x with
   | none => rw [hd'] at h; cases h
   | some d =>
    rw [hd'] at h
    cases h
    exact qm (by rw [hh, hd']) next
  ·cases h
theorem qw (k : Nat) {st' : St} {log' : List (Nat × B5)} (h : S7 X.n ops k i st log = some (st', log')) (next : A6 P X ops dr Q r (i + k) st' log') : A6 P X ops dr Q (r + k) i st log := by
 induction k generalizing i st log with
 | zero => cases h; exact next
 | succ k ih =>
  rw [S7] at h
  split at h
  ·cases h
  ·rename_i l hl
   exact RZ hl (ih h (by rwa [zF1, Nat.add_comm 1]))
end
theorem cw {f n : Nat} {fn : Func} {c : Code} {args : List D} {rv : List (Nat × List (List T))} {res : D} {rs : List ResultVar} (hf : P.funcs[f]? = some fn)
  (h : ∀ (w0 : World) (S0 : Nat → Prop), W P ⟨w0, S0, n, G0 S0⟩ c (fun e st => match e with | .normal | .ret => RC P rs st rv res | _ => False) (UA args))
  (hb : fn.body = some c := by exact rfl) (hn : fn.ntmps = n := by exact rfl) (hrs : fn.results.toList = rs := by exact rfl) (hl : args.length ≤ n := by exact GO rfl) (hn9 : n ≤ 90000 := by exact GO rfl) (hpub : args.all OI = true := by exact rfl) : Ar P f args rv res :=
 MB hf hb hn hrs hl hn9 hpub h
theorem tm {st : St} {t : Nat} {x : E} (h : st.env t = some (.e x) := by exact rfl) : V4 P st [.tmp t] [x] := ⟨.tmp _ _ h, trivial⟩
end Go.Lift
namespace Go.Lift
open Go.RowKit Go.Shelf
def Vh {α : Type} (c : α → α → Int) (x y : α) : Prop := c x y < 0 ∧ 0 < c y x
structure RM {α : Type} (c : α → α → Int) (M : α → Prop) : Prop where
 self : ∀ x, M x → c x x = 0
 tri : ∀ x y, M x → M y → x = y ∨ Vh c x y ∨ Vh c y x
 trans : ∀ x y z, M x → M y → M z → Vh c x y → Vh c y z → Vh c x z
namespace RM
variable {α : Type} {c : α → α → Int} {M : α → Prop}
theorem lt (O : RM c M) {x y : α} (hx : M x) (hy : M y) : c x y < 0 ↔ Vh c x y := by
 refine ⟨fun h => ?_, fun h => h.1⟩
 rcases O.tri x y hx hy with e | e | e
 ·subst e; have := O.self x hx; omega
 ·exact e
 ·have := e.2; omega
end RM
section
variable {P : Program} {ρ : Ren} {α : Type}
end
end Go.Lift
namespace Go.Lift
open Go.RowKit Go.Shelf
section
variable {α : Type}
end
end Go.Lift
namespace Go.Lift
open Option renaming bind_some → oS
open Go.RowKit Go.ChangeShapes Go.WideShapes
variable {P : Program} {X : Gt} {ops : Array Oper}
section run
variable {dr : Bool} {Q : St → Prop} {r i : Nat} {st : St} {log : List (Nat × B5)} {o : Oper} {gs : List (Operand × D)}
theorem F6 {xt : TypeId} (x y : Operand) (a b : ByteArray) (h : a.size + b.size ≤ 9223372036854775807) : EV P .add xt x y (.string a) (.string b) (.string (a ++ b)) := fun w => by
 have := run_string_add_sum (P := P) (w := w) a b h
 simp [binOp_string_add, eqGuard, this]
theorem LS {xt : TypeId} (x y : Operand) (a b : ByteArray) : EV P .eql xt x y (.string a) (.string b) (.bool (a.toList == b.toList)) := fun w => by simp [eqGuard, binOp_string_eql]
end run
theorem UK {W : World} (h : ∀ x, x ∈ S6 → ∀ g, P.globalNamed x.1 = some g → Lib.TabIs P W x.1 x.2.1 x.2.2) : Si P W (P0 W) := fun x hx g hg => by
 have h1 := h x hx g hg
 refine ⟨?_, h1⟩
 unfold Lib.TabIs World.var? at h1
 rw [hg, oS] at h1
 show g < W.heap.size
 split at h1
 ·rename_i e; exact (zI8.1 e).1
 ·cases h1
theorem OE {H : Type} {enc : TypeId × Value → H} {C : Checked} {os : Os} {f : FuncId} {fn : Func} {s : ChangeSpec} {conds : List PathCond} {tb : TypeId} {d : Nat} {laid : List (String × DataW Unit)}
  (own : ownKnob C.prog.godebug = none) (started : os.Started) (noInit : C.prog.inits.idxOf? f = none) (hfn : C.prog.funcs[f]? = some fn)
  (witness : ∃ (w : World) (tape : Tape) (i : Input), w.os = os ∧ (w.forCall tape i).Shaped C.prog ∧ i.vars = [] ∧ Input.okWide C.prog (w.forCall tape i) .any w.heap.size f i ∧
   ((s.pre enc C.prog fn conds false (w.forCall tape i).memory i.args ∧ laidMetH C.prog laid (w.forCall tape i).memory) ∧ sizedMet enc C.prog fn (OpenSpec.ofChange s) false (w.forCall tape i).memory i.args) ∧ ({} : Assume).holds C.prog (lone (Frame.enter C.prog f i.args .normal) [] (w.forCall tape i)))
  (hv : s.vars = []) (hs : ∀ ds : List (DataW H), ds.length = fn.params.toList.length → s.fn H (ds ++ []) = { results := [.lit (.bool true)], args := ds })
  (hres : fn.resultTypes = #[tb]) (htb : C.prog.underlying tb = some .bool) (hl : laidOutB C.prog = true)
  (hread : (fn.params.toList.all fun t => C.prog.readableRec t && decide (t < C.prog.types.size)) = true) (hplain : (fn.params.toList.all (HF C.prog d)) = true)
  (law : ∀ Ds, Ic C.prog d fn.params.toList Ds → Ar C.prog f Ds [] (.e (.one (.pure (.val (.bool true))))))
  (hp : (laid.all fun x => x.2.handleName?.isNone) = true) (hgk : ∀ W, laidMet C.prog laid W → Si C.prog W (P0 W)) :
  ReturnsInHanded {} C os f .any (fun w args => (s.pre enc C.prog fn conds false w args ∧ laidMetH C.prog laid w) ∧ sizedMet enc C.prog fn (OpenSpec.ofChange s) false w args) (s.post enc C.prog fn false true false false) := by
 refine returnsInHanded_of_change_and (X := fun w _ => laidMetH C.prog laid w) (fun _ _ _ hh h => by rw [MakeChecks.laidMetH_plain _ _ _ hp] at h ⊢; exact h.of_heap hh) own started noInit hfn witness ?_
 intro W base args ds gs before hval hW _ _ hL _
 rw [MakeChecks.laidMetH_plain _ _ _ hp] at hL
 have hW' := hW
 obtain ⟨p, q, hA, hV, rfl, _, _⟩ := hW
 rw [hv] at hV
 obtain ⟨rfl, rfl⟩ := trodVars_none hV
 obtain ⟨Ds, h1, h2, h3, h4⟩ := Qp hplain (fun j t v hj hvj => hval j t v (by simpa using hj) (by simpa using hvj)) hA
 have hlt : ∀ x ∈ p, x.block < W.heap.size := fun x hx => hW'.lt x (by simp [hx])
 refine (law Ds h1 W (P0 W) args (fun β h => h) (hgk W hL) (by simpa using h2) ?_).mono ?_
 ·intro j x hj
  obtain ⟨v, g1, g2⟩ := h4 j x hj
  have : Ap args j = v := by unfold Ap; rw [show args[j]? = some v from by simpa using g1]; rfl
  rw [this]; exact g2
 ·rintro e W' ⟨v, G', rfl, hb, _, _, hr, _⟩
  have hvb : v = .bool true := by
   have h5 : Cs W' G'.S v (.val (.bool true)) := hr
   cases h5; rfl
  subst hvb
  refine ⟨_, rfl, ds, [], p ++ [], [], p, [], hW', ?_, ?_, ?_, hb.frame _, fun h => by cases h⟩
  ·rw [hs ds h3, hres]
   exact trodAll_mk1 (shut_bool htb true)
  ·rw [hs ds h3]
   exact Ji hl hb.toBelow hread hA hlt
  ·rw [hs ds h3, hv]
   rfl
end Go.Lift
namespace Go.Lift
open Go.RowKit Go.Shelf
def MJ (n : Int) : Option ByteArray := if -9223372036854775808 ≤ n ∧ n ≤ 9223372036854775807 then some ⟨(Lib.itoa n).toArray⟩ else none
theorem UV {P : Program} {ρ : Ren} (L : Go.Proofs.LaysM.n171 P ρ) {g : Nat} (hg : P.globalNamed "internal/strconv.uint64pow10" = some g) {n : Int} {r : ByteArray} (h : MJ n = some r) :
  Ar P (ρ.f 171) [.e (.one (.pure (.val (.int .i64 n))))] [] (.e (.one (.pure (.val (.string r))))) := by
 intro w S vs hS hgk hlen hrd
 have h0 : Cs w S (Ap vs 0) (.val (.int .i64 n)) := hrd 0 _ rfl
 have hv : Ap vs 0 = .int .i64 n := CF h0
 have hvs : vs = #[.int .i64 n] := by
  have h2 : vs.size = 1 := hlen
  apply Array.ext (by simp [h2])
  intro i h1 _
  match i, h1 with
  | 0, h1 => rw [← hv]; simp [Ap, h1]
  | i + 1, h1 => omega
 unfold MJ at h
 split at h
 ·rename_i hb
  cases h
  have ht : Lib.TabIs P w "internal/strconv.uint64pow10" .u64 Lib.pow10Tab := (hgk ("internal/strconv.uint64pow10", .u64, SQ) (by simp [S6]) g hg).2
  rw [hvs]
  refine (Go.Proofs.Any.strconv_Itoa L n hb.1 hb.2 w ht).mono ?_
  rintro e w' ⟨rfl, k, os, rfl⟩
  refine ⟨_, G0 S, rfl, ⟨⟨rfl, rfl, rfl, by simp [Go.Sort.grow], fun i hi => ?_⟩, .of (by show w.drawn ≤ w.drawn + k; omega)⟩, fun _ h => h, fun _ h => .inl h, .val _ rfl, fun i x hi => by simp at hi, fun i β hi => by simp at hi, fun i l β hi => by simp at hi⟩
  show (w.heap ++ os)[i]? = _
  rw [zJ9, if_pos hi]
 ·cases h
end Go.Lift
namespace Go.Lift
open Go.RowKit
variable {P : Program} {X : Gt}
end Go.Lift
namespace Go.Lift
open Go.RowKit
variable {P : Program} {X : Gt} {ops : Array Oper}
section run
variable {dr : Bool} {Q : St → Prop} {r i : Nat} {st : St} {log : List (Nat × B5)} {o : Oper} {gs : List (Operand × D)}
end run
end Go.Lift
namespace Go.Lift
open Go.RowKit Go.Shelf
end Go.Lift
namespace Go.Lift
open Go.RowKit Go.Shelf
section
variable {P : Program} {ρ : Ren} {α : Type}
end
end Go.Lift
namespace Go.Lift
open Go.RowKit Go.Shelf
variable {P : Program} {X : Gt} {ops : Array Oper}
theorem MN {st : St} (s : Nat) (d0 d : D) (hs : st.env s = some d0) (hn : d.names = []) (h : ∀ w G v, FG P w G v d0 → FG P w G v d) : Fj P X st (St.put st (some s) (some d)) := by
 rintro a w ⟨G, hh⟩
 refine ⟨G, { hh with env := ?_, live := ?_, blk := hh.blk, at_ok := hh.at_ok, at_inj := hh.at_inj, liveB := hh.liveB, nlt := hh.nlt, lent := hh.lent }⟩
 ·intro t d' ht
  simp only [St.put] at ht
  split at ht
  ·rename_i e; cases ht; rw [e]
   exact h w G _ (hh.env s _ hs)
  ·exact hh.env t d' ht
 ·intro t d' ht b hb
  simp only [St.put] at ht
  split at ht
  ·cases ht; rw [hn] at hb; cases hb
  ·exact hh.live t d' ht b hb
theorem Ns {st : St} (s : Nat) (ts : List T) (hs : st.env s = some (.e (.one (.rop ts)))) : Fj P X st (St.put st (some s) (some (one (.rp (some ts))))) :=
 MN s _ _ hs rfl fun w G v h => by
  obtain ⟨β, off, arr, el, fz, rfl, h1, h2, h3, h4⟩ : Ej P w G v (.rop ts) := h
  exact Cs.rp β off arr el fz ts h1 h2 h3 h4
theorem RB {st : St} (s : Nat) (q : Option (List T)) (ts : List T) (hs : st.env s = some (one (.rp q))) (hq : q = some ts) : Fj P X st (St.put st (some s) (some (.e (.one (.rop ts))))) :=
 MN s _ _ hs rfl fun w G v h => by
  subst hq
  have h : Cs w G.S v (.rp (some ts)) := h
  cases h with
  | rp β off arr el fz _ h1 h2 h3 h4 => exact (⟨β, off, arr, el, fz, rfl, h1, h2, h3, h4⟩ : Ej P w G _ (.rop ts))
theorem Pb {P : Program} {ρ : Ren} (L : Go.Proofs.LaysM.n173 P ρ) {g : Nat} (hg : P.globalNamed "internal/strconv.uint64pow10" = some g) {n : Int} {r : ByteArray} (h : MJ n = some r) :
  Ar P (ρ.f 173) [.e (.one (.pure (.val (.int .i64 n)))), .e (.one (.pure (.val (.int .i64 10))))] [] (.e (.one (.pure (.val (.string r))))) := by
 intro w S vs hS hgk hlen hrd
 have h0 : Cs w S (Ap vs 0) (.val (.int .i64 n)) := hrd 0 _ rfl
 have h1 : Cs w S (Ap vs 1) (.val (.int .i64 10)) := hrd 1 _ rfl
 have hv : Ap vs 0 = .int .i64 n := CF h0
 have hv1 : Ap vs 1 = .int .i64 10 := CF h1
 have hvs : vs = #[.int .i64 n, .int .i64 10] := by
  have h2 : vs.size = 2 := hlen
  apply Array.ext (by simp [h2])
  intro i h1 _
  match i, h1 with
  | 0, h1 => rw [← hv]; simp [Ap, h1]
  | 1, h1 => rw [← hv1]; simp [Ap, h1]
  | i + 2, h1 => omega
 unfold MJ at h
 split at h
 ·rename_i hb
  cases h
  have ht : Lib.TabIs P w "internal/strconv.uint64pow10" .u64 Lib.pow10Tab := (hgk ("internal/strconv.uint64pow10", .u64, SQ) (by simp [S6]) g hg).2
  rw [hvs]
  refine (Go.Proofs.Any.strconv_FormatInt_10 L n hb.1 hb.2 w ht).mono ?_
  rintro e w' ⟨rfl, k, os, rfl⟩
  refine ⟨_, G0 S, rfl, ⟨⟨rfl, rfl, rfl, by simp [Go.Sort.grow], fun i hi => ?_⟩, .of (by show w.drawn ≤ w.drawn + k; omega)⟩, fun _ h => h, fun _ h => .inl h, .val _ rfl, fun i x hi => by simp at hi, fun i β hi => by simp at hi, fun i l β hi => by simp at hi⟩
  show (w.heap ++ os)[i]? = _
  rw [zJ9, if_pos hi]
 ·cases h
end Go.Lift
namespace Go.Lift
open Option renaming bind_some → oS
open Go.RowKit Go.Shelf
variable {P : Program} {X : Gt} {ops : Array Oper} {dr : Bool} {Q : St → Prop} {r i : Nat} {st : St} {log : List (Nat × B5)} {gs : List (Operand × D)}
theorem OG {x : Operand} {s : Nat} {ts : List T} (hat : At st.env ops i X.n (.nilCheck x) s gs) (hx : opd st.env x = some (.e (.one (.rop ts))))
  (next : A6 P X ops dr Q r (i + 1) (B5.upd ⟨gs ++ [(x, .e (.one (.rop ts)))], [], some s, some (.e (.one (.rop ts))), [], []⟩ st) ((i, ⟨gs ++ [(x, .e (.one (.rop ts)))], [], some s, some (.e (.one (.rop ts))), [], []⟩) :: log)) : A6 P X ops dr Q (r + 1) i st log := by
 obtain ⟨o, ho, hop, hd, hn, hg, hgp⟩ := hat.out
 refine A6.step next ⟨Aj.2 ⟨hgp, hx, trivial⟩, trivial, trivial⟩ (LR.value ho hg rfl hd.symm (CV hd hn) ?_)
 intro G st a w hs hpre
 obtain ⟨hx, _⟩ := (Aj.1 hpre.r).2
 obtain ⟨β, k, arr, el, fz, hv, h1⟩ : Ej P w G (a.eval x) (.rop ts) := hs.opd hx
 refine ⟨.pointer (some ⟨β, k, none⟩), w, G, ?_, hs, ?_⟩
 ·simp only [execOp, hop, hv]; rfl
 ·rintro d ⟨⟩
  exact ⟨⟨β, k, arr, el, fz, rfl, h1⟩, fun b hb => by cases hb⟩
def RW (P : Program) (t n el : Nat) : Bool := match P.underlying t with | some (.array m e) => m == n && e == el | _ => false
theorem Ps {t n el : Nat} (h : RW P t n el = true) : P.underlying t = some (.array n el) := by
 unfold RW at h
 split at h
 ·rename_i m e hu
  simp only [zA1, beq_iff_eq] at h
  rw [hu, h.1, h.2]
 ·cases h
theorem R2 {t n el e : Nat} {s : Nat} {z : Value} {zs : List Value} {cells : List C} {parts : Array (Nat × Operand)} (ps : List (Nat × Operand × E)) (hat : At st.env ops i X.n (.build t parts) s gs) (hps : parts = (ps.map fun p => (p.1, p.2.1)).toArray)
  (hx : D1 st.env (F8 ps)) (hz : Dn P t = some z) (hzs : z.cells.toList = zs) (h1 : zs.all F3 = true) (ha : RW P t n el = true) (he : Gb P el e = true) (hf : Jn (fun i => some (i * e, e)) (zs.map fun v => C.pure (T.of v)) (ps.map fun p => (p.1, p.2.2)) = some cells)
  (next : A6 P X ops dr Q r (i + 1) (B5.upd ⟨gs ++ F8 ps, [], some s, some (.e (.agg cells)), [], []⟩ st) ((i, ⟨gs ++ F8 ps, [], some s, some (.e (.agg cells)), [], []⟩) :: log)) : A6 P X ops dr Q (r + 1) i st log := by
 obtain ⟨o, ho, hop, hd, hn, hg, hgp⟩ := hat.out
 refine A6.step next ⟨Aj.2 ⟨hgp, hx⟩, trivial, trivial⟩ (LR.value ho hg rfl hd.symm (CV hd hn) ?_)
 intro G st a w hs hpre
 have hx := (Aj.1 hpre.r).2
 subst hzs
 have hpr := Ia hs hx
 obtain ⟨arr', r1, r2, r3⟩ := Kx (P := P) (w := w) (G := G) (fun i => some (i * e, e)) (ps.map fun p => (p.1, p.2.2)) (ps.map fun p => (p.1, a.eval p.2.1)) _ cells z.cells (by simp) (fun j c hj => LX h1 j c hj) (by simp) (fun j p v hp hv => ⟨(hpr j p v hp hv).1, (hpr j p v hp hv).2.1⟩) hf
 refine ⟨.agg arr', w, G, ?_, hs, ?_⟩
 ·simp only [execOp, hop, hps, IG]
  refine Af (run_build w t _ arr' ?_) rfl
  unfold Dn at hz
  cases hit : P.info? t with
  | none => rw [hit] at hz; cases hz
  | some it =>
   rw [hit] at hz
   simp only [oS] at hz
   unfold Gb at he
   cases hie : P.info? el with
   | none => rw [hie] at he; cases he
   | some ie =>
    rw [hie] at he
    have he' : ie.size = e := by simpa using he
    unfold Program.built
    rw [hit, Ps ha]
    simp only [hz, hie, he']
    simpa using r1
 ·rintro d ⟨⟩
  refine ⟨⟨arr', rfl, r2, r3⟩, fun b hb => ?_⟩
  rcases IR _ hf hb with h | ⟨p, h2, h3⟩
  ·rw [KG] at h; cases h
  ·obtain ⟨j, hj⟩ := zB0.1 h2
   have hlt := AA hj
   simp only [zB9] at hlt
   exact (hpr j p ((ps.map fun p => (p.1, a.eval p.2.1))[j]'(by simpa using hlt)) hj (by simp [hlt])).2.2 b h3
theorem RL {x y : Operand} {s n el t : Nat} {ts : List T} {u : T} {k : IntKind} {m : Int} (hat : At st.env ops i X.n (.indexAddr t x y) s gs)
  (hx : opd st.env x = some (.e (.one (.rop ts)))) (hy : opd st.env y = some (vD (.int k m))) (ht : RW P t n el = true) (hz : Gb P el 1 = true) (hl : ts.length = n) (h0 : 0 ≤ m) (hu : ts[m.toNat]? = some u)
  (next : A6 P X ops dr Q r (i + 1) (B5.upd ⟨gs ++ [(x, .e (.one (.rop ts))), (y, vD (.int k m))], [], some s, some (.e (.one (.rop [u]))), [], []⟩ st) ((i, ⟨gs ++ [(x, .e (.one (.rop ts))), (y, vD (.int k m))], [], some s, some (.e (.one (.rop [u]))), [], []⟩) :: log)) : A6 P X ops dr Q (r + 1) i st log := by
 obtain ⟨o, ho, hop, hd, hn, hg, hgp⟩ := hat.out
 refine A6.step next ⟨Aj.2 ⟨hgp, hx, hy, trivial⟩, trivial, trivial⟩ (LR.value ho hg rfl hd.symm (CV hd hn) ?_)
 intro G st a w hs hpre
 obtain ⟨hx, hy, _⟩ := (Aj.1 hpre.r).2
 obtain ⟨β, off, arr, el', fz, hv, h1, h2, h3, h4⟩ : Ej P w G (a.eval x) (.rop ts) := hs.opd hx
 have hY : a.eval y = .int k m := CF (hs.opd hy : Cs w G.S (a.eval y) (.val _))
 have hlt := AA hu
 refine ⟨.pointer (some ⟨β, off + m.toNat * 1, none⟩), w, G, ?_, hs, ?_⟩
 ·simp only [execOp, hop, hv, hY]
  refine Af (a := .pointer (some ⟨β, off + m.toNat * 1, none⟩)) (w1 := w) ?_ rfl
  unfold Instr.indexAt
  refine Af (a := (k, m)) (w1 := w) rfl ?_
  refine Af (AB (Ps ht) w) ?_
  have hb : 0 ≤ m ∧ m < (n : Int) := ⟨h0, by omega⟩
  refine Af (a := ⟨β, off, none⟩) (w1 := w) rfl ?_
  refine Af (a := ((some ⟨β, off, none⟩ : Option Addr), n, el)) (w1 := w) rfl ?_
  refine Af (AB (Ps ht) w) ?_
  simp only [hb, and_self, if_true]
  refine Af (CW hz w) ?_
  rw [Addr.add_mk]; rfl
 ·rintro d ⟨⟩
  refine ⟨⟨β, off + m.toNat * 1, arr, el', fz, rfl, h1, h2, by simp; omega, fun j u' hj => ?_⟩, fun b hb => by cases hb⟩
  cases j with
  | zero =>
   cases hj
   have := h4 _ u hu
   simpa using this
  | succ j => simp at hj
theorem P2 {t : Nat} (h : K4 P t = true) : P.underlying t = some .string := by
 unfold K4 at h
 split at h
 ·assumption
 ·cases h
theorem Kq {x : Operand} {b : ByteArray} {s t : Nat} (hat : At st.env ops i X.n (.call ⟨.builtin .len, #[x], #[t]⟩) s gs)
  (hx : opd st.env x = some (vD (.string b))) (ht : K4 P t = true)
  (next : A6 P X ops dr Q r (i + 1) (B5.upd ⟨gs ++ [(x, vD (.string b))], [], some s, some (vD (.int .i64 (b.size : Int))), [], []⟩ st) ((i, ⟨gs ++ [(x, vD (.string b))], [], some s, some (vD (.int .i64 (b.size : Int))), [], []⟩) :: log)) : A6 P X ops dr Q (r + 1) i st log := by
 obtain ⟨o, ho, hop, hd, hn, hg, hgp⟩ := hat.out
 refine A6.step next ⟨Aj.2 ⟨hgp, hx, trivial⟩, trivial, trivial⟩ (LR.value ho hg rfl hd.symm (CV hd hn) ?_)
 intro G st a w hs hpre
 obtain ⟨hx, _⟩ := (Aj.1 hpre.r).2
 have hX : a.eval x = .string b := CF (hs.opd hx : Cs w G.S (a.eval x) (.val _))
 refine ⟨.int .i64 b.size, w, G, ?_, hs, ?_⟩
 ·simp only [execOp, hop]
  refine Gu fun cs => ?_
  simp only [zH5, zC4, zJ0, builtin, hX]
  refine Af (a := .int .i64 b.size) (w1 := w) ?_ rfl
  unfold Builtin.len_
  refine Af (AB (P2 ht) w) ?_
  rfl
 ·rintro d ⟨⟩
  exact ⟨.val _ rfl, fun b hb => by cases hb⟩
theorem Kp {G : Gh} {st : St} {a : Act} {w : World} (hs : Cu P X G st a w) {lo hi : Option Operand} {l h len : Nat} {rl rh : List (Operand × D)} (hlo : Pm lo 0 l rl) (hhi : Pm hi len h rh) (h1 : D1 st.env rl) (h2 : D1 st.env rh) (hlh : l ≤ h) (hhc : h ≤ len) :
  (Instr.sliceBounds false len len (lo.map a.eval) (hi.map a.eval) none).run P w = .ok (l, h, len) w := by
 unfold Instr.sliceBounds
 refine Af (a := len) (w1 := w) rfl ?_
 have low : ∀ (h : Nat), l ≤ h → ((match lo.map a.eval with
      | some v => do
       let l ← Instr.sliceBound v h (if (none : Option Value).isSome = true then BoundsCode.slice3C else BoundsCode.sliceB)
       pure (l, h, len)
      | none => do
       let l ← pure 0
       pure (l, h, len) : Sem (Nat × Nat × Nat))).run P w = .ok (l, h, len) w := fun h hlh => by
  cases hlo with
  | none => rfl
  | some y d k v hv =>
   have : a.eval y = .int k v := CF (hs.opd h1.1 : Cs w G.S (a.eval y) (.val _))
   simp only [zE5, this]
   exact Af (FT hv hlh w) rfl
 cases hhi with
 | none => exact Af (w1 := w) rfl (low _ hlh)
 | some y d k v hv =>
  have : a.eval y = .int k v := CF (hs.opd h2.1 : Cs w G.S (a.eval y) (.val _))
  simp only [zE5, this]
  exact Af (FT hv hhc w) (low _ hlh)
theorem Ox {x : Operand} {t s l h : Nat} {lo hi : Option Operand} {rl rh : List (Operand × D)} {b : ByteArray} (hat : At st.env ops i X.n (.slice t x lo hi none) s gs)
  (hx : opd st.env x = some (vD (.string b))) (ht : K4 P t = true) (hlo : Pm lo 0 l rl) (hhi : Pm hi b.size h rh) (h1 : D1 st.env rl) (h2 : D1 st.env rh) (hlh : l ≤ h) (hhl : h ≤ b.size)
  (next : A6 P X ops dr Q r (i + 1) (B5.upd ⟨gs ++ ((x, vD (.string b)) :: (rl ++ rh)), [], some s, some (vD (.string (b.extract l h))), [], []⟩ st) ((i, ⟨gs ++ ((x, vD (.string b)) :: (rl ++ rh)), [], some s, some (vD (.string (b.extract l h))), [], []⟩) :: log)) : A6 P X ops dr Q (r + 1) i st log := by
 obtain ⟨o, ho, hop, hd, hn, hg, hgp⟩ := hat.out
 refine A6.step next ⟨Aj.2 ⟨hgp, hx, Aj.2 ⟨h1, h2⟩⟩, trivial, trivial⟩ (LR.value ho hg rfl hd.symm (CV hd hn) ?_)
 intro G st a w hs hpre
 obtain ⟨hx, h12⟩ := (Aj.1 hpre.r).2
 obtain ⟨h1, h2⟩ := Aj.1 h12
 have hX : a.eval x = .string b := CF (hs.opd hx : Cs w G.S (a.eval x) (.val _))
 refine ⟨.string (b.extract l h), w, G, ?_, hs, ?_⟩
 ·simp only [execOp, hop, hX]
  refine Af (a := .string (b.extract l h)) (w1 := w) ?_ rfl
  unfold Instr.sliceAt
  refine Af (AB (P2 ht) w) ?_
  unfold Instr.slice
  refine Af (AB (P2 ht) w) ?_
  refine Af (Kp hs hlo hhi h1 h2 hlh hhl) ?_
  rfl
 ·rintro d ⟨⟩
  exact ⟨.val _ rfl, fun b hb => by cases hb⟩
end Go.Lift
namespace Go.Lift
open Go.RowKit Go.Proofs
theorem Qe {w : World} {b : Nat} {o : Obj} (h : w.heap[b]? = some o) : b < w.heap.size := (zI8.1 h).1
theorem SG {T e : TypeId} {B b : Nat} {bs : List Value} {w w' : World} (h : Lib.IsBuilder T e B b bs w) (hb : Below w.heap.size w w') : Lib.IsBuilder T e B b bs w' := by
 have key : ∀ p, Lib.BuilderAt T e B b p bs w → Lib.BuilderAt T e B b p bs w' := by
  rintro p ⟨h1, v, h2, ⟨h3, h4⟩, h5⟩
  refine ⟨h1, v, by rw [hb.block b (Qe h2)]; exact h2, ⟨h3, ?_⟩, h5⟩
  rcases h4 with h4 | ⟨g, cap, cur, k1, k2, k3, k4⟩
  ·exact .inl h4
  ·exact .inr ⟨g, cap, cur, k1, k2, by rw [hb.block g (Qe k3)]; exact k3, k4⟩
 exact h.imp (key _) (key _)
end Go.Lift
namespace Go.Lift
open Go.RowKit
variable {P : Program}
theorem AR.drop {w : World} {S : Nat → Prop} {arr : Array Value} {e n : Nat} {rows : List (List T)} (h : AR w S arr e 0 rows) (hn : n ≤ rows.length) : AR w S arr e (n * e) (rows.drop n) := by
 obtain ⟨h1, h2, h3⟩ := h
 refine ⟨?_, fun i row hi => ?_, fun i row j t hi hj => ?_⟩
 ·rw [List.length_drop, ← zB4]
  rw [zA4] at h1
  exact zH0 (zA3 e (by omega)) h1
 ·rw [zD6] at hi
  exact h2 _ row hi
 ·rw [zD6] at hi
  have := h3 _ row j t hi hj
  rwa [zA4, zB4] at this
theorem AR.three {w : World} {S : Nat → Prop} {arr a1 a2 a3 : Array Value} {e : Nat} {r1 r2 r3 : List (List T)} (h1 : AR w S a1 e 0 r1) (h2 : AR w S a2 e 0 r2) (h3 : AR w S a3 e 0 r3) (s2 : a2.size = r2.length * e) (hs : (r1.length + (r2.length + r3.length)) * e ≤ arr.size)
  (f1 : ∀ j, j < r1.length * e → Ap arr j = Ap a1 j) (f2 : ∀ j, j < r2.length * e → Ap arr (r1.length * e + j) = Ap a2 j) (f3 : ∀ j, j < r3.length * e → Ap arr (r1.length * e + r2.length * e + j) = Ap a3 j) : AR w S arr e 0 (r1 ++ (r2 ++ r3)) := by
 have h3s : r3.length * e ≤ a3.size := by have := h3.1; omega
 have g23 := E1 (_off := 0) (f := fun j => Ap (a2 ++ a3) j) h2 h3 (fun j hj => by rw [AU (by omega)]) (fun j hj => by rw [C1 (by omega), s2, zC3])
 have h23 : AR w S (a2 ++ a3) e 0 (r2 ++ r3) := by
  refine ⟨?_, g23.1, fun i row j t hi hj => ?_⟩
  ·rw [zG2, zC6, zA4, zB4, s2]
   omega
  ·rw [zA4]; exact g23.2 i row j t hi hj
 have g := E1 (_off := 0) (f := fun j => Ap arr j) h1 h23 f1 (fun j hj => by
  rw [zG2, zB4] at hj
  by_cases hlt : j < r2.length * e
  ·rw [f2 j hlt, AU (by omega)]
  ·have := f3 (j - r2.length * e) (by omega)
   rw [show r1.length * e + r2.length * e + (j - r2.length * e) = r1.length * e + j by omega] at this
   rw [this, C1 (by omega), s2])
 refine ⟨?_, g.1, fun i row j t hi hj => ?_⟩
 ·rw [zG2, zG2, zA4]; exact hs
 ·rw [zA4]; exact g.2 i row j t hi hj
theorem NG {t t2 el e bytes : Nat} {w : World} {z : Value} {a : Option Addr} {n cap k : Nat} {ty : TypeId} {olds : Array Value} (ht : sliceB P t el = true) (ht2 : P.underlying t2 = some (.int .i64)) (he : Gb P el e = true) (hby : Fk P el bytes = true) (hbs : bytes ≤ 4096)
  (hz : Dn P el = some z) (hzs : z.cells.size = e) (h0 : 0 < k) (hc : cap < n + k) (hl : n + k ≤ FR) (hep : 0 < e) (hold : ∀ w' : World, w'.heap = w.heap → (Builtin.firstCells e n (.slice a n cap)).run P w' = .ok olds w') :
  ∃ c rest, n + k ≤ c ∧ c ≤ 9223372036854775807 ∧ (Builtin.append_ #[t, t2] ty #[.slice a n cap, .int .i64 (k : Int)]).run P w = .ok (.slice (some ⟨w.heap.size, 0, none⟩) (n + k) c) (w.drew.alloc (.cells (olds ++ Builtin.zeroCells z.cells k ++ rest) el)) ∧ rest.size = (c - (n + k)) * e := by
 unfold sliceB at ht
 split at ht
 ·rename_i e' hu
  have : e' = el := by simpa using ht
  subst this
  unfold Fk at hby
  split at hby
  ·rename_i inf hinf
   have hbytes : inf.bytes = bytes := by simpa using hby
   have hlim : (FR : Int) = 4294967296 := by simp [FR]
   have hw : IntKind.i64.wrap (k : Int) = (k : Int) := wrap_i64 (by omega) (by omega)
   have hb : (k : Int) * (inf.bytes : Int) ≤ 17592186044416 := by
    have h1 : k * inf.bytes ≤ 4294967296 * 4096 := Nat.mul_le_mul (by omega) (by omega)
    have h2 : ((k * inf.bytes : Nat) : Int) = (k : Int) * (inf.bytes : Int) := by rw [Int.natCast_mul]
    omega
   have hfit : ¬ (n + k ≤ cap) := by omega
   have hnc : Builtin.nextslicecap (n + k) cap * inf.bytes ≤ 281474976710656 := growslice_fits (by omega) (by
    rw [hbytes]
    exact zH0 (Nat.mul_le_mul (by omega : n + k ≤ FR) hbs) RD)
   obtain ⟨c, hc1, hc9, hc2⟩ : ∃ c, n + k ≤ c ∧ c ≤ 9223372036854775807 ∧ (choose (.appendCap (n + k) cap e')).run P w = .ok c w.drew := by
    refine ⟨n + k + w.tape w.drawn (.appendCap (n + k) cap e') % (2 ^ 63 - (n + k)), Nat.le_add_right _ _, ?_, rfl⟩
    have := Nat.mod_lt (w.tape w.drawn (.appendCap (n + k) cap e')) (show 0 < 2 ^ 63 - (n + k) by omega)
    omega
   refine ⟨c, Builtin.zeroCells z.cells (c - (n + k)), hc1, hc9, ?_, by simp [Builtin.zeroCells, hzs]⟩
   have hne : ¬ (k * e = 0) := by
    intro h
    rcases Nat.mul_eq_zero.1 h with h | h <;> omega
   have hc3 : ¬ (((n + k : Nat) : Int) > IntKind.i64.max ∧ (True ∨ inf.bytes = 0)) := by
    have h1 : IntKind.i64.max = 9223372036854775807 := rfl
    rw [h1]; omega
   have hc4 : ¬ (Builtin.nextslicecap (n + k) cap * inf.bytes > 2 ^ 48) := by omega
   unfold Builtin.append_
   refine Af (AB hu w) ?_
   refine Af (CW he w) ?_
   refine Af (AB ht2 w) ?_
   refine Af (a := true) (w1 := w) rfl ?_
   dsimp only
   rw [if_pos rfl]
   refine Af (a := (k : Int)) (w1 := w) rfl ?_
   rw [hw, if_neg (by omega)]
   refine Af (Eb hinf w) ?_
   rw [if_neg (by omega)]
   refine Af (a := k) (w1 := w) (by simp) ?_
   simp only [hfit, if_false]
   refine Af (Eb hinf w) ?_
   rw [if_neg hc3]
   refine Af (Eb hinf w) ?_
   rw [if_neg hc4]
   refine Af hc2 ?_
   refine Af (Eb hinf w.drew) ?_
   refine Af (run_askRoom P w.drew _) ?_
   refine Af (hold w.drew rfl) ?_
   refine Af (a := Builtin.zeroCells z.cells k) (w1 := w.drew) ?_ ?_
   ·simp only [zA8, zH9, if_false, hne]
    exact Af (Ef hz w.drew) rfl
   refine Af (Ef hz w.drew) ?_
   rfl
  ·cases hby
 ·cases ht
theorem Nh {w : World} {tS tR el e : Nat} (ht : sliceB P tS el = true) (he : Gb P el e = true) {β b off o vc lb cb : Nat} {arr arr2 : Array Value} {t1 t2 : TypeId} {fz : Nat × Nat} (hne : β ≠ b) (h1 : w.heap[β]? = some (.cells arr2 t2 fz)) (h2 : w.heap[b]? = some (.cells arr t1 (0, 0))) (hs : arr.size ≠ 0) (hs2 : arr2.size ≠ 0) :
  (Extern.SlicesOverlaps.overlaps #[tS, tS] #[tR] #[.slice (some ⟨β, off, none⟩) 1 vc, .slice (some ⟨b, o, none⟩) lb cb]).run P w = .ok (.bool false) w := by
 unfold sliceB at ht
 split at ht
 ·rename_i e' hu
  have : e' = el := by simpa using ht
  subst this
  have hnb : ((⟨β, off, none⟩ : Addr).block != (⟨b, o, none⟩ : Addr).block) = true := by simpa using hne
  have hnb' : ((⟨β, off, none⟩ : Addr).block == (⟨b, o, none⟩ : Addr).block) = false := by simpa using hne
  have s1 : w.shape? β = some (t2, arr2.size) := by unfold World.shape?; rw [h1]
  have s2 : w.shape? b = some (t1, arr.size) := by unfold World.shape?; rw [h2]
  have f2 : ∀ q, w.frozen? ⟨b, q, none⟩ = false := fun q => by
   unfold World.frozen?
   simp [h2]
  change Sem.run P (α := Value) (do
   let some t := (#[tS, tS] : Array TypeId)[0]? | stuck "slices.overlaps: no parameter types"
   let .slice elem ← underlying t | stuck "slices.overlaps: slice type expected"
   let size ← sizeOf elem
   match (some ⟨β, off, none⟩ : Option Addr), (some ⟨b, o, none⟩ : Option Addr) with
   | some a, some b =>
    if 1 = 0 ∨ lb = 0 ∨ size = 0 then pure (Value.bool false)
    else if a.block != b.block && (← frozen a) && (← frozen b) then unsupported .addressObserved
    else do
     if a.block != b.block then do
      noView a; noView b
      if ← mayBeOne a b then return Value.bool ((← choose (Question.extern "sameAddr.stringBytes" 2)) == 1)
     pure (Value.bool (a.block == b.block && a.off < b.off + lb * size && b.off < a.off + 1 * size))
   | _, _ => pure (Value.bool false)) w = _
  by_cases h0 : lb = 0 ∨ e = 0
  ·simp [run_underlying hu, CW he, h0]
  ·cases hk : arr.size with
   | zero => exact absurd hk hs
   | succ k =>
    rw [hk] at s2
    cases hk2 : arr2.size with
    | zero => exact absurd hk2 hs2
    | succ k2 =>
    rw [hk2] at s1
    cases hf : w.frozen? ⟨β, off, none⟩ <;> cases hg : w.frozen? ⟨β, k2 + 1, none⟩ <;> simp [run_underlying hu, CW he, h0, hnb, hnb', frozen, noView, viewAt, mayBeOne, stringish, shape, Sem.run, s1, s2, f2, hf, hg]
 ·cases ht
end Go.Lift
namespace Go.Lift
open Go.RowKit
variable {P : Program}
theorem Kb {w w' : World} {G : Gh} {β cap e : Nat} {arr : Array Value} {el : TypeId} {rows : List (List T)} (hat : w'.heap[β]? = some (.cells arr el (0, 0))) (hc : rows.length ≤ cap) (hs : arr.size = cap * e) (hr : AR w' G.S arr e 0 rows) (hb : (w.heap.size ≤ β ∨ G.has 90900 β) ∧ β < w'.heap.size ∧ ¬ G.S β) (hbel : B7 (fun β => G.has 90900 β) w.heap.size w w') :
  ∃ v G', (Ending.returned (.slice (some ⟨β, 0, none⟩) rows.length cap) : Ending) = .returned v ∧ B7 (fun β => G.has 90900 β) w.heap.size w w' ∧ (∀ β, G.S β → G'.S β) ∧ (∀ β, G'.S β → G.S β ∨ (w.heap.size ≤ β ∧ β < w'.heap.size)) ∧ FG P w' G' v (.e (.one (.own 0))) ∧
   (∀ (k : Nat) (x : Bj), [Bj.vec e rows][k]? = some x → DV P w' G' k x) ∧
   (∀ k β, k < [Bj.vec e rows].length → G'.has k β → (w.heap.size ≤ β ∨ G.has 90900 β) ∧ β < w'.heap.size ∧ ¬ G'.S β) ∧
   (∀ k l β, k < [Bj.vec e rows].length → l < [Bj.vec e rows].length → G'.has k β → G'.has l β → k = l) := by
 refine ⟨.slice (some ⟨β, 0, none⟩) rows.length cap, { S := G.S, loc := fun k => if k = 0 then some β else none, hd := fun k => if k = 0 then .slice (some ⟨β, 0, none⟩) rows.length cap else undef, more := fun _ _ => False }, rfl, hbel, fun _ h => h, fun _ h => .inl h, ?_, ?_, ?_, ?_⟩
 ·exact ⟨rfl, _, _, _, rfl⟩
 ·intro k x hk
  match k, hk with
  | 0, hk =>
   cases hk
   exact .inr ⟨β, cap, arr, el, rfl, rfl, hat, hc, hs, hr.2.1, fun i row j t hi hj => by have := hr.2.2 i row j t hi hj; rwa [zA4] at this⟩
  | k + 1, hk => simp at hk
 ·intro k γ hk h
  have hk0 : k = 0 := by simpa using hk
  subst hk0
  rcases h with h | h
  ·have : β = γ := Option.some.inj h
   rw [← this]; exact hb
  ·exact h.elim
 ·intro k l γ hk hl _ _
  have hk0 : k = 0 := by simpa using hk
  have hl0 : l = 0 := by simpa using hl
  rw [hk0, hl0]
theorem GA {w : World} {S : Nat → Prop} {β off len cap e n : Nat} {arr : Array Value} {el : TypeId} {fz : Nat × Nat} {rows : List (List T)} (hn : rows.length = n) (hb : w.heap[β]? = some (.cells arr el fz)) (h : AR w S arr e off rows) :
  ∃ news, (∀ (w' : World) (len' cap' : Nat), w'.heap[β]? = w.heap[β]? → (Builtin.firstCells e n (.slice (some ⟨β, off, none⟩) len' cap')).run P w' = .ok news w') ∧ AR w S news e 0 rows ∧ news.size = n * e := by
 subst hn
 obtain ⟨h1, h2, h3⟩ := h
 refine ⟨_, fun w' _ _ hw' => Gm (by rw [hw']; exact hb) h1, ⟨by simp, h2, fun i row j t hi hj => ?_⟩, by simp⟩
 have hj' := AA hj
 have hi' := AA hi
 have := h2 i row hi
 have hle : i * e + e ≤ rows.length * e := by rw [← zC1]; exact zA3 e hi'
 rw [zA4, F9 (by omega), ← zF1]
 exact h3 i row j t hi hj
theorem Rv {f ov tS ti tR el e bytes : Nat} {z : Value} (ht : sliceB P tS el = true) (hti : P.underlying ti = some (.int .i64)) (he : Gb P el e = true) (hby : Fk P el bytes = true) (hbs : bytes ≤ 4096) (hz : Dn P el = some z) (hzs : z.cells.size = e) (hep : 0 < e)
  (hov : ∀ (w : World) (x y : Value), (Extern.SlicesOverlaps.overlaps #[tS, tS] #[tR] #[x, y]).run P w = .ok (.bool false) w → (callFunc ov #[x, y]).run P w = .ok (.value (.bool false)) w)
  (W1 : ∀ (a : Option Addr) (n c : Nat) (p : Option Addr) (vc : Nat) (w : World) (r : Value) (w1 : World), (a = none → c = 0) → n ≤ c → (∀ ty, (Builtin.append_ #[tS, tS] ty #[.slice a n c, .slice p 1 vc]).run P w = .ok r w1) → Calls P f #[.slice a n c, .int .i64 (n : Int), .slice p 1 vc] w fun e w' => e = .returned r ∧ w' = w1)
  (W2 : ∀ (b i n c C B : Nat) (p : Option Addr) (vc : Nat) (w w1 w2 w3 : World) (r1 r2 : Value), i < n → n ≤ 4294967296 → n ≤ c → c < n + 1 → n + 1 ≤ C →
   (∀ ty, (Builtin.append_ #[tS, ti] ty #[.slice (some ⟨b, 0, none⟩) i c, .int .i64 ((n : Int) + 1 - (i : Int))]).run P w = .ok (.slice (some ⟨B, 0, none⟩) (n + 1) C) w1) →
   (∀ ty dc, (Builtin.copy_ #[tS, tS] ty #[.slice (some ⟨B, i * e, none⟩) (n + 1 - i) dc, .slice p 1 vc]).run P w1 = .ok r1 w2) →
   (∀ ty dc sc, (Builtin.copy_ #[tS, tS] ty #[.slice (some ⟨B, (i + 1) * e, none⟩) (n + 1 - (i + 1)) dc, .slice (some ⟨b, i * e, none⟩) (n - i) sc]).run P w2.drew = .ok r2 w3) →
   Calls P f #[.slice (some ⟨b, 0, none⟩) n c, .int .i64 (i : Int), .slice p 1 vc] w fun e w' => e = .returned (.slice (some ⟨B, 0, none⟩) (n + 1) C) ∧ w' = w3)
  (W3 : ∀ (b i n c : Nat) (p : Option Addr) (vc : Nat) (w w1 w2 : World) (r1 r2 : Value), i < n → n ≤ 4294967296 → n + 1 ≤ c →
   (∀ lb cb, (callFunc ov #[.slice p 1 vc, .slice (some ⟨b, (i + 1) * e, none⟩) lb cb]).run P w = .ok (.value (.bool false)) w) →
   (∀ ty dc sc, (Builtin.copy_ #[tS, tS] ty #[.slice (some ⟨b, (i + 1) * e, none⟩) (n + 1 - (i + 1)) dc, .slice (some ⟨b, i * e, none⟩) (n + 1 - i) sc]).run P w.drew = .ok r1 w1) →
   (∀ ty dc, (Builtin.copy_ #[tS, tS] ty #[.slice (some ⟨b, i * e, none⟩) (n + 1 - i) dc, .slice p 1 vc]).run P w1 = .ok r2 w2) →
   Calls P f #[.slice (some ⟨b, 0, none⟩) n c, .int .i64 (i : Int), .slice p 1 vc] w fun e w' => e = .returned (.slice (some ⟨b, 0, none⟩) (n + 1) c) ∧ w' = w2)
  {rows : List (List T)} {x : List T} {i : Nat} (hx : x.length = e) (hi : i ≤ rows.length) (hlim : rows.length + 1 ≤ FR) :
  HJ P f [.e (.one (.own 90900)), .e (.one (.pure (.val (.int .i64 (i : Int))))), .e (.one (.pure (.sl [x])))] (.vec e rows) [.vec e (rows.take i ++ ([x] ++ rows.drop i))] (.e (.one (.own 0))) := by
 intro w G vs hS hgk hblk hla hlen hrd
 have hlim' : (FR : Int) = 4294967296 := by simp [FR]
 obtain ⟨v0, s0, s1, s2⟩ : Ap vs 0 = G.hd 90900 ∧ ∃ a l c, Ap vs 0 = .slice a l c := hrd 0 _ rfl
 have hv1 : Ap vs 1 = .int .i64 (i : Int) := CF (hrd 1 _ rfl : Cs w G.S (Ap vs 1) (.val _))
 have h2 : Cs w G.S (Ap vs 2) (.sl [x]) := hrd 2 _ rfl
 have hvs : vs = #[Ap vs 0, Ap vs 1, Ap vs 2] := by
  have h3 : vs.size = 3 := hlen
  apply Array.ext (by simp [h3])
  intro j h1 _
  have : j = 0 ∨ j = 1 ∨ j = 2 := by omega
  rcases this with rfl | rfl | rfl <;> simp [Ap, h1]
 rw [hvs, hv1, v0]
 clear hvs hv1 v0
 generalize Ap vs 2 = v2 at h2
 cases h2 with
 | sl γ off cap2 e2 arr2 el2 fz rows2 k1 k2 k3 k4 k5 k6 =>
  have he2 : e2 = e := by rw [← hx]; exact (k5 0 x rfl).symm
  subst he2
  obtain ⟨news, qB, q2, q3⟩ := GA (P := P) (S := G.S) (len := 1) (cap := cap2) (n := 1) (rows := [x]) rfl k2 ⟨k4, k5, k6⟩
  have q1 : ∀ w' : World, w'.heap = w.heap → (Builtin.firstCells e2 1 (.slice (some ⟨γ, off, none⟩) 1 cap2)).run P w' = .ok news w' := fun w' hw' => qB w' 1 cap2 (by rw [hw'])
  have q3 : news.size = ([x] : List (List T)).length * e2 := q3
  have hn1 : news.toList.length = e2 := by rw [zE1, q3]; simp
  have ht1 : (rows.take i).length = i := by rw [zH6]; omega
  have hd1 : (rows.drop i).length = rows.length - i := List.length_drop
  have hrl : (rows.take i ++ ([x] ++ rows.drop i)).length = rows.length + 1 := by simp; omega
  have hγlt : γ < w.heap.size := hS γ k1
  have fresh : ∀ (o : Obj), (w.drew.alloc o).heap[w.heap.size]? = some o ∧ (∀ β, β < w.heap.size → (w.drew.alloc o).heap[β]? = w.heap[β]?) ∧ (w.drew.alloc o).heap.size = w.heap.size + 1 := fun o =>
   ⟨by rw [C0, Fd, if_pos rfl], fun β hβ => by rw [C0, if_neg (by rw [Fd]; omega)]; rfl, by show (w.heap.push _).size = _; simp⟩
  have belA : ∀ (o : Obj), B7 (fun β => G.has 90900 β) w.heap.size w (w.drew.alloc o) := fun o => ((B7.refl _ _ w).drew).alloc (by rw [Fd]; exact zC5 _) o
  have hmul1 : ([x] : List (List T)).length * e2 = e2 := by simp
  have hmulT : (rows.take i).length * e2 = i * e2 := by rw [ht1]
  by_cases hend : i = rows.length
  · -- at the end
   have hdr : rows.drop i = [] := by rw [hend, List.drop_length]
   have hii : ((i : Nat) : Int) = (rows.length : Int) := by rw [hend]
   have htk : rows.take i = rows := by rw [hend, List.take_length]
   have hde : ∀ (w' : World), AR w' G.S #[] e2 0 (rows.drop i) := fun w' => by
    rw [hdr]
    exact ⟨by simp, fun i row h => by simp at h, fun i row j t h => by simp at h⟩
   rcases hblk with ⟨a, h1, hr0, _⟩ | ⟨β, cap, arr, el', hl0, h1, g2, g3, g4, g5, g6⟩
   ·subst hr0
    rw [h1]
    obtain ⟨olds, o1, o2, o3⟩ := D7 (P := P) (w := w) (a := a) (len := 0) (cap := 0) (e := e2) (S := G.S)
    rcases FC (P := P) (ty := 0) (a := a) (n := 0) (cap := 0) ht ht he hby hbs hz hzs rfl o1 q1 (by simpa using hlim) (zC5 _) with ⟨hfit, _⟩ | ⟨hfit, c, rest, hc1, hrun, hrest⟩
    ·simp at hfit
    ·have hi0 : i = 0 := hend
     subst hi0
     refine (W1 a 0 0 _ _ w _ _ (fun _ => rfl) (zC5 _) (fun ty => hrun)).mono ?_
     rintro e w' ⟨rfl, rfl⟩
     obtain ⟨f1, f2, f3⟩ := fresh (.cells (olds ++ news ++ rest) el)
     have hmono : ∀ {r : List (List T)} {a' : Array Value}, AR w G.S a' e2 0 r → AR (w.drew.alloc (.cells (olds ++ news ++ rest) el)) G.S a' e2 0 r := fun h => h.mono fun γ hγ => f2 γ (hS γ hγ)
     have hro : AR (w.drew.alloc (.cells (olds ++ news ++ rest) el)) G.S (olds ++ news ++ rest) e2 0 (([] : List (List T)).take 0 ++ ([x] ++ ([] : List (List T)).drop 0)) := by
      refine AR.three (hmono o2) (hmono q2) (hde _) q3 ?_ (fun j hj => by simp at hj) (fun j hj => ?_) (fun j hj => by simp at hj)
      ·simp only [zC6, o3, q3]
       simp
      ·simp only [List.take_nil, zF3, Nat.zero_mul, zA4]
       rw [AU (by simp [o3, q3]; simpa using hj), C1 (by omega), o3, Nat.sub_zero]
     have := Kb (P := P) (w := w) (cap := c) f1 (by simpa using hc1) (by simp only [zC6, o3, q3, hrest]; rw [zA4, ← zB4]; congr 1; simp at hc1 ⊢; omega) hro ⟨.inl (zC5 _), by omega, fun q => zF8 _ (hS _ q)⟩ (belA _)
     exact this
   ·rw [h1]
    have hrow : AR w G.S arr e2 0 rows := ⟨by rw [g4, zA4]; exact zA3 e2 g3, g5, fun i row j t hi hj => by rw [zA4]; exact g6 i row j t hi hj⟩
    obtain ⟨hβlt, hβS⟩ := hla β (.inl hl0)
    obtain ⟨olds, o1, o2, o3⟩ := Em (P := P) (len := rows.length) (cap := cap) g2 hrow
    rcases FC (P := P) (ty := 0) (a := some ⟨β, 0, none⟩) (n := rows.length) (cap := cap) ht ht he hby hbs hz hzs rfl o1 q1 hlim g3 with ⟨hfit, hrun⟩ | ⟨hfit, c, rest, hc1, hrun, hrest⟩
    ·have hle : rows.length * e2 + e2 ≤ arr.size := by rw [g4, ← zC1]; exact zA3 e2 hfit
     have hst := CX (P := P) (β := β) (el := el') news.toList w (rows.length * e2) 0 arr g2 (by rw [hn1]; omega) (AR.ones q2 q3)
     rw [zE8] at hst
     have hrun2 := hrun _ (fun p hp => by cases hp; rw [Addr.add_mk, zA4]; exact hst) (fun h => by cases h)
     rw [hii]
     refine (W1 (some ⟨β, 0, none⟩) rows.length cap _ _ w _ _ (fun q => by cases q) g3 (fun ty => hrun2)).mono ?_
     rintro e w' ⟨rfl, rfl⟩
     have hov2 : ∀ j, Ap (D3 arr (rows.length * e2) news.toList) j = if rows.length * e2 ≤ j ∧ j < rows.length * e2 + e2 then Ap news (j - rows.length * e2) else Ap arr j := fun j => by
      rw [C5 _ _ _ _ (by rw [hn1]; omega), hn1, CT]
     have hmono : ∀ {r : List (List T)} {a' : Array Value}, AR w G.S a' e2 0 r → AR (CC w β (.cells (D3 arr (rows.length * e2) news.toList) el' (0, 0))) G.S a' e2 0 r := fun h => h.mono fun γ hγ => by rw [BU, if_neg (fun (q : _ = β ∧ β < w.heap.size) => hβS (q.1 ▸ hγ))]
     have hro : AR (CC w β (.cells (D3 arr (rows.length * e2) news.toList) el' (0, 0))) G.S (D3 arr (rows.length * e2) news.toList) e2 0 (rows.take i ++ ([x] ++ rows.drop i)) := by
      refine AR.three (a1 := arr) (hmono (by rw [htk]; exact hrow)) (hmono q2) (hde _) q3 ?_ (fun j hj => ?_) (fun j hj => ?_) (fun j hj => by rw [hdr] at hj; simp at hj)
      ·rw [DR, hdr, htk]
       simp only [zD4, zF3, zE8]
       rw [zB4]; omega
      ·rw [htk] at hj
       rw [hov2, if_neg (by omega)]
      ·rw [hmul1] at hj
       rw [htk, hov2, if_pos (by omega), zC3]
     have := Kb (P := P) (w := w) (cap := cap) (rows := rows.take i ++ ([x] ++ rows.drop i)) (by rw [BU, if_pos ⟨rfl, hβlt⟩]) (by rw [hrl]; exact hfit) (by rw [DR]; exact g4) hro ⟨.inr (.inl hl0), by show β < (w.heap.setIfInBounds _ _).size; simpa using hβlt, hβS⟩ (FA (B7.refl _ _ w) (.inr (.inl hl0)) _)
     rw [hrl] at this
     exact this
    ·rw [hii]
     refine (W1 (some ⟨β, 0, none⟩) rows.length cap _ _ w _ _ (fun q => by cases q) g3 (fun ty => hrun)).mono ?_
     rintro e w' ⟨rfl, rfl⟩
     obtain ⟨f1, f2, f3⟩ := fresh (.cells (olds ++ news ++ rest) el)
     have hmono : ∀ {r : List (List T)} {a' : Array Value}, AR w G.S a' e2 0 r → AR (w.drew.alloc (.cells (olds ++ news ++ rest) el)) G.S a' e2 0 r := fun h => h.mono fun γ hγ => f2 γ (hS γ hγ)
     have hro : AR (w.drew.alloc (.cells (olds ++ news ++ rest) el)) G.S (olds ++ news ++ rest) e2 0 (rows.take i ++ ([x] ++ rows.drop i)) := by
      refine AR.three (hmono (by rw [htk]; exact o2)) (hmono q2) (hde _) q3 ?_ (fun j hj => ?_) (fun j hj => ?_) (fun j hj => by rw [hdr] at hj; simp at hj)
      ·rw [hdr, htk]
       simp only [zC6, o3, q3, zD4, zF3, zE8]
       rw [zB4]; omega
      ·rw [htk] at hj
       rw [AU (by simp only [zC6]; omega), AU (by omega)]
      ·rw [htk]
       rw [AU (by simp only [zC6]; omega), C1 (by omega), o3, zC3]
     have := Kb (P := P) (w := w) (cap := c) (rows := rows.take i ++ ([x] ++ rows.drop i)) f1 (by rw [hrl]; exact hc1) (by simp only [zC6, o3, q3, hrest]; rw [← zB4, ← zB4]; congr 1; simp only [zD4, zF3] at hc1 ⊢; omega) hro ⟨.inl (zC5 _), by omega, fun q => zF8 _ (hS _ q)⟩ (belA _)
     rw [hrl] at this
     exact this
  · -- before the end
   have hlt : i < rows.length := by omega
   rcases hblk with ⟨a, h1, hr0, _⟩ | ⟨β, cap, arr, el', hl0, h1, g2, g3, g4, g5, g6⟩
   ·subst hr0; simp at hlt
   ·rw [h1]
    have hrow : AR w G.S arr e2 0 rows := ⟨by rw [g4, zA4]; exact zA3 e2 g3, g5, fun i row j t hi hj => by rw [zA4]; exact g6 i row j t hi hj⟩
    obtain ⟨hβlt, hβS⟩ := hla β (.inl hl0)
    have hdrow := hrow.drop (n := i) (by omega)
    have hiz : i * e2 + (rows.length - i) * e2 = rows.length * e2 := by rw [← zB4]; congr 1; omega
    have hi1 : (i + 1) * e2 = i * e2 + e2 := zC1 i e2
    have hn1e : (rows.length + 1) * e2 = rows.length * e2 + e2 := zC1 _ _
    have hcapn : rows.length * e2 ≤ cap * e2 := zA3 e2 g3
    have hst2 : arr2.size ≠ 0 := by
     have k4' : off + 1 * e2 ≤ arr2.size := k4
     omega
    by_cases hroom : rows.length + 1 ≤ cap
    ·have hne : γ ≠ β := fun q => hβS (q ▸ k1)
     have hce : (rows.length + 1) * e2 ≤ cap * e2 := zA3 e2 hroom
     obtain ⟨dn, d1, d2, d3⟩ := GA (P := P) (S := G.S) (len := 0) (cap := 0) (n := rows.length - i) (rows := rows.drop i) hd1 g2 hdrow
     have hdl : dn.toList.length = (rows.length - i) * e2 := by rw [zE1, d3]
     -- what is behind moves up
     have hs1 := CX (P := P) (β := β) (el := el') dn.toList w.drew ((i + 1) * e2) 0 arr g2 (by rw [hdl]; omega) (AR.ones d2 (by rw [d3, hd1]))
     rw [zE8 ((i + 1) * e2)] at hs1
     obtain ⟨A1, hA1⟩ : ∃ A1, A1 = D3 arr ((i + 1) * e2) dn.toList := ⟨_, rfl⟩
     rw [← hA1] at hs1
     have hA1s : A1.size = cap * e2 := by rw [hA1, DR, g4]
     have hc1 : ∀ (ty dc sc : Nat), (Builtin.copy_ #[tS, tS] ty #[.slice (some ⟨β, (i + 1) * e2, none⟩) (rows.length + 1 - (i + 1)) dc, .slice (some ⟨β, i * e2, none⟩) (rows.length + 1 - i) sc]).run P w.drew = .ok (goInt (rows.length - i : Nat)) (CC w.drew β (.cells A1 el' (0, 0))) := fun ty dc sc => by
      have hmin : zD2 (rows.length + 1 - i) (rows.length + 1 - (i + 1)) = rows.length - i := by
       show min _ _ = _
       omega
      have := IB (P := P) (t := tS) (t2 := tS) (ty := ty) (p := some ⟨β, (i + 1) * e2, none⟩) (p2 := some ⟨β, i * e2, none⟩) (dl := rows.length + 1 - (i + 1)) (dc := dc) (n2 := rows.length + 1 - i) (c2 := sc) ht he (news := dn) (w := w.drew) (by rw [hmin]; exact d1 w.drew _ _ rfl) (fun q hq => by cases hq; exact hs1) (fun h => by cases h)
      rw [hmin] at this
      exact this
     have hb1 : (CC w.drew β (.cells A1 el' (0, 0))).heap[β]? = some (.cells A1 el' (0, 0)) := by rw [BU, if_pos ⟨rfl, hβlt⟩]
     have ho1 : ∀ q, q ≠ β → (CC w.drew β (.cells A1 el' (0, 0))).heap[q]? = w.heap[q]? := fun q hq => by rw [BU, if_neg (fun h => hq h.1)]; rfl
     -- the new one
     have hs2 := CX (P := P) (β := β) (el := el') news.toList (CC w.drew β (.cells A1 el' (0, 0))) (i * e2) 0 A1 hb1 (by rw [hn1]; omega) (AR.ones q2 q3)
     rw [zE8 (i * e2)] at hs2
     obtain ⟨A2, hA2⟩ : ∃ A2, A2 = D3 A1 (i * e2) news.toList := ⟨_, rfl⟩
     rw [← hA2] at hs2
     have hA2s : A2.size = cap * e2 := by rw [hA2, DR, hA1s]
     have hc2 : ∀ (ty dc : Nat), (Builtin.copy_ #[tS, tS] ty #[.slice (some ⟨β, i * e2, none⟩) (rows.length + 1 - i) dc, .slice (some ⟨γ, off, none⟩) 1 cap2]).run P (CC w.drew β (.cells A1 el' (0, 0))) = .ok (goInt (1 : Nat)) (CC (CC w.drew β (.cells A1 el' (0, 0))) β (.cells A2 el' (0, 0))) := fun ty dc => by
      have hmin : zD2 1 (rows.length + 1 - i) = 1 := by
       show min _ _ = _
       omega
      have := IB (P := P) (t := tS) (t2 := tS) (ty := ty) (p := some ⟨β, i * e2, none⟩) (p2 := some ⟨γ, off, none⟩) (dl := rows.length + 1 - i) (dc := dc) (n2 := 1) (c2 := cap2) ht he (news := news) (w := CC w.drew β (.cells A1 el' (0, 0))) (by rw [hmin]; exact qB _ _ _ (ho1 γ hne)) (fun q hq => by cases hq; exact hs2) (fun h => by cases h)
      rw [hmin] at this
      exact this
     refine (W3 β i rows.length cap _ _ w _ _ _ _ hlt (by omega) hroom (fun lb cb => hov w _ _ (Nh ht he hne k2 g2 (by rw [g4]; omega) hst2)) hc1 hc2).mono ?_
     rintro e w' ⟨rfl, rfl⟩
     have hoo : ∀ q, q ≠ β → (CC (CC w.drew β (.cells A1 el' (0, 0))) β (.cells A2 el' (0, 0))).heap[q]? = w.heap[q]? := fun q hq => by rw [BU, if_neg (fun h => hq h.1)]; exact ho1 q hq
     have hmono : ∀ {r : List (List T)} {a' : Array Value} {o : Nat}, AR w G.S a' e2 o r → AR (CC (CC w.drew β (.cells A1 el' (0, 0))) β (.cells A2 el' (0, 0))) G.S a' e2 o r := fun h => h.mono fun q hq => hoo q fun e => hβS (e ▸ hq)
     have hcl : ∀ j, Ap A2 j = if i * e2 ≤ j ∧ j < i * e2 + e2 then Ap news (j - i * e2) else if (i + 1) * e2 ≤ j ∧ j < (i + 1) * e2 + (rows.length - i) * e2 then Ap dn (j - (i + 1) * e2) else Ap arr j := fun j => by
      rw [hA2, C5 _ _ _ _ (by rw [hn1]; omega), hn1, CT, hA1, C5 _ _ _ _ (by rw [hdl]; omega), hdl, CT]
     have hro : AR (CC (CC w.drew β (.cells A1 el' (0, 0))) β (.cells A2 el' (0, 0))) G.S A2 e2 0 (rows.take i ++ ([x] ++ rows.drop i)) := by
      refine AR.three (a1 := arr) (hmono hrow.take) (hmono q2) (hmono d2) q3 ?_ (fun j hj => ?_) (fun j hj => ?_) (fun j hj => ?_)
      ·have : (rows.take i).length + (([x] : List (List T)).length + (rows.drop i).length) = rows.length + 1 := by rw [ht1, hd1]; simp; omega
       rw [this, hA2s]; exact hce
      ·rw [hmulT] at hj
       rw [hcl, if_neg (by omega), if_neg (by omega)]
      ·rw [hmul1] at hj
       rw [hmulT, hcl, if_pos (by omega), zC3]
      ·rw [hd1] at hj
       rw [hmulT, hmul1, hcl, if_neg (by omega), if_pos (by omega), hi1, zC3]
     have := Kb (P := P) (w := w) (cap := cap) (rows := rows.take i ++ ([x] ++ rows.drop i)) (by rw [BU, if_pos ⟨rfl, by show β < (w.heap.setIfInBounds _ _).size; simpa using hβlt⟩]) (by rw [hrl]; exact hroom) hA2s hro ⟨.inr (.inl hl0), by show β < ((w.heap.setIfInBounds _ _).setIfInBounds _ _).size; simpa using hβlt, hβS⟩ (FA (FA (B7.refl _ _ w).drew (.inr (.inl hl0)) _) (.inr (.inl hl0)) _)
     rw [hrl] at this
     exact this
    ·have htrow := hrow.take (n := i)
     obtain ⟨olds, o1, o2, o3⟩ := Em (P := P) (len := i) (cap := cap) g2 htrow
     rw [ht1] at o1 o3
     obtain ⟨c, rest, hc1, _, hrun, hrest⟩ := NG (P := P) (ty := 0) (a := some ⟨β, 0, none⟩) (n := i) (cap := cap) (k := rows.length + 1 - i) ht hti he hby hbs hz hzs (by omega) (by omega) (by omega) hep o1
     rw [show i + (rows.length + 1 - i) = rows.length + 1 by omega] at hc1 hrun hrest
     have hzc : (Builtin.zeroCells z.cells (rows.length + 1 - i)).size = (rows.length + 1 - i) * e2 := by simp [Builtin.zeroCells, hzs]
     have hza : i * e2 + (rows.length + 1 - i) * e2 = (rows.length + 1) * e2 := by rw [← zB4]; congr 1; omega
     obtain ⟨A1, hA1⟩ : ∃ A1, A1 = olds ++ Builtin.zeroCells z.cells (rows.length + 1 - i) ++ rest := ⟨_, rfl⟩
     rw [← hA1] at hrun
     have hA1s : A1.size = c * e2 := by
      rw [hA1, zC6, zC6, o3, hzc, hrest, hza, ← zB4]; congr 1; omega
     have hce : (rows.length + 1) * e2 ≤ c * e2 := zA3 e2 hc1
     obtain ⟨f1, f2, f3⟩ := fresh (.cells A1 el)
     -- the first copy
     have hst1 := CX (P := P) (β := w.heap.size) (el := el) news.toList (w.drew.alloc (.cells A1 el)) (i * e2) 0 A1 f1 (by rw [hn1]; omega) (AR.ones q2 q3)
     rw [zE8 (i * e2)] at hst1
     obtain ⟨A2, hA2⟩ : ∃ A2, A2 = D3 A1 (i * e2) news.toList := ⟨_, rfl⟩
     rw [← hA2] at hst1
     have hA2s : A2.size = c * e2 := by rw [hA2, DR, hA1s]
     have hc2 : ∀ (ty dc : Nat), (Builtin.copy_ #[tS, tS] ty #[.slice (some ⟨w.heap.size, i * e2, none⟩) (rows.length + 1 - i) dc, .slice (some ⟨γ, off, none⟩) 1 cap2]).run P (w.drew.alloc (.cells A1 el)) = .ok (goInt (1 : Nat)) (CC (w.drew.alloc (.cells A1 el)) w.heap.size (.cells A2 el (0, 0))) := fun ty dc => by
      have hmin : zD2 1 (rows.length + 1 - i) = 1 := by
       show min _ _ = _
       omega
      have := IB (P := P) (t := tS) (t2 := tS) (ty := ty) (p := some ⟨w.heap.size, i * e2, none⟩) (p2 := some ⟨γ, off, none⟩) (dl := rows.length + 1 - i) (dc := dc) (n2 := 1) (c2 := cap2) ht he (news := news) (w := w.drew.alloc (.cells A1 el)) (by rw [hmin]; exact qB _ _ _ (f2 γ hγlt)) (fun q hq => by cases hq; exact hst1) (fun h => by cases h)
      rw [hmin] at this
      exact this
     have hb1 : (CC (w.drew.alloc (.cells A1 el)) w.heap.size (.cells A2 el (0, 0))).heap[w.heap.size]? = some (.cells A2 el (0, 0)) := by rw [BU, if_pos ⟨rfl, by omega⟩]
     have ho1 : ∀ q, q < w.heap.size → (CC (w.drew.alloc (.cells A1 el)) w.heap.size (.cells A2 el (0, 0))).heap[q]? = w.heap[q]? := fun q hq => by rw [BU, if_neg (fun h => by omega)]; exact f2 q hq
     -- the second copy
     obtain ⟨dn, d1, d2, d3⟩ := GA (P := P) (S := G.S) (len := 0) (cap := 0) (n := rows.length - i) (rows := rows.drop i) hd1 g2 hdrow
     have hdl : dn.toList.length = (rows.length - i) * e2 := by rw [zE1, d3]
     have hst2' := CX (P := P) (β := w.heap.size) (el := el) dn.toList (CC (w.drew.alloc (.cells A1 el)) w.heap.size (.cells A2 el (0, 0))).drew ((i + 1) * e2) 0 A2 hb1 (by rw [hdl]; omega) (AR.ones d2 (by rw [d3, hd1]))
     rw [zE8 ((i + 1) * e2)] at hst2'
     obtain ⟨A3, hA3⟩ : ∃ A3, A3 = D3 A2 ((i + 1) * e2) dn.toList := ⟨_, rfl⟩
     rw [← hA3] at hst2'
     have hA3s : A3.size = c * e2 := by rw [hA3, DR, hA2s]
     have hc3 : ∀ (ty dc sc : Nat), (Builtin.copy_ #[tS, tS] ty #[.slice (some ⟨w.heap.size, (i + 1) * e2, none⟩) (rows.length + 1 - (i + 1)) dc, .slice (some ⟨β, i * e2, none⟩) (rows.length - i) sc]).run P (CC (w.drew.alloc (.cells A1 el)) w.heap.size (.cells A2 el (0, 0))).drew = .ok (goInt (rows.length - i : Nat)) (CC (CC (w.drew.alloc (.cells A1 el)) w.heap.size (.cells A2 el (0, 0))).drew w.heap.size (.cells A3 el (0, 0))) := fun ty dc sc => by
      have hmin : zD2 (rows.length - i) (rows.length + 1 - (i + 1)) = rows.length - i := by
       show min _ _ = _
       omega
      have := IB (P := P) (t := tS) (t2 := tS) (ty := ty) (p := some ⟨w.heap.size, (i + 1) * e2, none⟩) (p2 := some ⟨β, i * e2, none⟩) (dl := rows.length + 1 - (i + 1)) (dc := dc) (n2 := rows.length - i) (c2 := sc) ht he (news := dn) (w := (CC (w.drew.alloc (.cells A1 el)) w.heap.size (.cells A2 el (0, 0))).drew) (by rw [hmin]; exact d1 _ _ _ (ho1 β hβlt)) (fun q hq => by cases hq; exact hst2') (fun h => by cases h)
      rw [hmin] at this
      exact this
     have hk : ((rows.length + 1 - i : Nat) : Int) = (rows.length : Int) + 1 - (i : Int) := by omega
     rw [hk] at hrun
     refine (W2 β i rows.length cap c w.heap.size _ _ w _ _ _ _ _ hlt (by omega) g3 (by omega) hc1 (fun ty => hrun) hc2 hc3).mono ?_
     rintro e w' ⟨rfl, rfl⟩
     have hsz1 : (CC (w.drew.alloc (.cells A1 el)) w.heap.size (.cells A2 el (0, 0))).heap.size = w.heap.size + 1 := by
      show ((w.drew.alloc (.cells A1 el)).heap.setIfInBounds _ _).size = _
      rw [zJ2]; exact f3
     have hsz2 : (CC (CC (w.drew.alloc (.cells A1 el)) w.heap.size (.cells A2 el (0, 0))).drew w.heap.size (.cells A3 el (0, 0))).heap.size = w.heap.size + 1 := by
      show ((CC (w.drew.alloc (.cells A1 el)) w.heap.size (.cells A2 el (0, 0))).heap.setIfInBounds _ _).size = _
      rw [zJ2]; exact hsz1
     have hoo : ∀ q, q < w.heap.size → (CC (CC (w.drew.alloc (.cells A1 el)) w.heap.size (.cells A2 el (0, 0))).drew w.heap.size (.cells A3 el (0, 0))).heap[q]? = w.heap[q]? := fun q hq => by rw [BU, if_neg (fun h => by omega)]; exact ho1 q hq
     have hmono : ∀ {r : List (List T)} {a' : Array Value} {o : Nat}, AR w G.S a' e2 o r → AR (CC (CC (w.drew.alloc (.cells A1 el)) w.heap.size (.cells A2 el (0, 0))).drew w.heap.size (.cells A3 el (0, 0))) G.S a' e2 o r := fun h => h.mono fun q hq => hoo q (hS q hq)
     have hcl : ∀ j, j < (rows.length + 1) * e2 → Ap A3 j = if (i + 1) * e2 ≤ j then Ap dn (j - (i + 1) * e2) else if i * e2 ≤ j then Ap news (j - i * e2) else Ap olds j := fun j hj => by
      rw [hA3, C5 _ _ _ _ (by rw [hdl]; omega), hdl, CT, hA2, C5 _ _ _ _ (by rw [hn1]; omega), hn1, CT]
      by_cases p1 : (i + 1) * e2 ≤ j
      ·rw [if_pos ⟨p1, by omega⟩, if_pos p1]
      ·rw [if_neg (fun q => p1 q.1), if_neg p1]
       by_cases p2 : i * e2 ≤ j
       ·rw [if_pos ⟨p2, by omega⟩, if_pos p2]
       ·rw [if_neg (fun q => p2 q.1), if_neg p2, hA1, AU (by rw [zC6, o3]; omega), AU (by omega)]
     have hro : AR (CC (CC (w.drew.alloc (.cells A1 el)) w.heap.size (.cells A2 el (0, 0))).drew w.heap.size (.cells A3 el (0, 0))) G.S A3 e2 0 (rows.take i ++ ([x] ++ rows.drop i)) := by
      refine AR.three (a1 := olds) (hmono o2) (hmono q2) (hmono d2) q3 ?_ (fun j hj => ?_) (fun j hj => ?_) (fun j hj => ?_)
      ·have : (rows.take i).length + (([x] : List (List T)).length + (rows.drop i).length) = rows.length + 1 := by rw [ht1, hd1]; simp; omega
       rw [this, hA3s]; exact hce
      ·rw [hmulT] at hj
       rw [hcl _ (by omega), if_neg (by omega), if_neg (by omega)]
      ·rw [hmul1] at hj
       rw [hmulT, hcl _ (by omega), if_neg (by omega), if_pos (by omega), zC3]
      ·rw [hd1] at hj
       rw [hmulT, hmul1, hcl _ (by omega), if_pos (by omega), hi1, zC3]
     have := Kb (P := P) (w := w) (cap := c) (rows := rows.take i ++ ([x] ++ rows.drop i)) (by rw [BU, if_pos ⟨rfl, by show w.heap.size < (CC (w.drew.alloc (.cells A1 el)) w.heap.size (.cells A2 el (0, 0))).heap.size; omega⟩]) (by rw [hrl]; exact hc1) hA3s hro ⟨.inl (zC5 _), by omega, fun q => zF8 _ (hS _ q)⟩ (FA (FA (belA _) (.inl (zC5 _)) _).drew (.inl (zC5 _)) _)
     rw [hrl] at this
     exact this
theorem R9 {α : Type} {en : α → List T} {f tS el e bytes : Nat} (_ : bytes = bytes) (C : ∀ (rows : List (List T)) (x : List T) (i : Nat), x.length = e → i ≤ rows.length → rows.length + 1 ≤ FR → HJ P f [.e (.one (.own 90900)), .e (.one (.pure (.val (.int .i64 (i : Int))))), .e (.one (.pure (.sl [x])))] (.vec e rows) [.vec e (rows.take i ++ ([x] ++ rows.drop i))] (.e (.one (.own 0))))
  (hen : ∀ x, (en x).length = e) {p0 p2 : List α} {p1 : Int} {r : List α} (h : ((EY (p2.length = 1 ∧ 0 ≤ p1 ∧ p1.toNat ≤ p0.length ∧ p0.length + 1 ≤ FR)).bind fun _ => some (p0.take p1.toNat ++ (p2 ++ p0.drop p1.toNat))) = some r) :
  HJ P f [.e (.one (.own 90900)), .e (.one (.pure (.val (.int .i64 p1)))), .e (.one (.pure (.sl (p2.map en))))] (.vec e (p0.map en)) [.vec e (r.map en)] (.e (.one (.own 0))) := by
 obtain ⟨⟨h1, h2, h3, h4⟩, h⟩ := Gx h
 cases h
 match p2, h1 with
 | [y], _ =>
  obtain ⟨u, rfl⟩ := zA6 h2
  rw [zB2] at h3 ⊢
  have := C (p0.map en) (en y) u (hen y) (by rw [zB9]; exact h3) (by rw [zB9]; exact h4)
  rw [List.map_append, List.map_append, List.map_take, List.map_drop]
  exact this
end Go.Lift
namespace Go.Lift
def Au (n : Int) : List T := [.val (.int .i64 n)]
def DL (n : Int) : List T := [.val (.int .u8 n)]
abbrev Ga (n : Int) : T := .val (.int .i64 n)
abbrev tB (b : Bool) : T := .val (.bool b)
abbrev tS (b : ByteArray) : T := .val (.string b)
def eB (b : Bool) : List T := [.val (.bool b)]
def eS (s : ByteArray) : List T := [.val (.string s)]
def Li {α : Type} (f : α → List T) (xs : List α) : List T := [.sl (xs.map f)]
theorem Sp : Vk Au := ⟨by intro x y h; simpa [Au] using h⟩
theorem WT : Vk eB := ⟨by intro x y h; simpa [eB] using h⟩
theorem WI {α : Type} {f : α → List T} (h : Vk f) : Vk (Li f) := ⟨by intro x y hx; simp only [Li, List.cons.injEq, T.sl.injEq, and_true] at hx; exact Qc h.inj _ _ hx⟩
structure AI where
 fa : Int
 fj : Int
 fC : Int
 fQ : Bool
 fD : List (List Bool)
 fv : List (List Bool)
def BF (x : AI) : List T := [.val (.int .i64 x.fa), .val (.int .i64 x.fj), .val (.int .i64 x.fC), .val (.bool x.fQ), .sl (x.fD.map (Li eB)), .sl (x.fv.map (Li eB))]
structure Aa where
 fc : List Int
 fk : List Int
 fp : List Int
 fd : List AI
def OF (x : Aa) : List T := [.sl (x.fc.map Au), .sl (x.fk.map Au), .sl (x.fp.map Au), .sl (x.fd.map BF)]
structure Al where
 fa : Int
 fm : Int
 fr : Int
def AM (x : Al) : List T := [.val (.int .i64 x.fa), .val (.int .i64 x.fm), .val (.int .i64 x.fr)]
theorem P5 : Vk AM := ⟨by
 rintro ⟨a1, a2, a3⟩ ⟨b1, b2, b3⟩ h
 simp only [AM, List.cons.injEq, T.val.injEq, Value.int.injEq, and_true, true_and] at h
 obtain ⟨h1, h2, h3⟩ := h
 subst h1
 subst h2
 subst h3
 rfl⟩
structure Ab where
 fi : Int
 fa : Int
 fA : Int
 fB : Int
 fF : Int
 fm : Int
 fw : Int
 fJ : Int
 fu : Int
 fr : Int
 fM : Int
def AE (x : Ab) : List T := [.val (.int .i64 x.fi), .val (.int .i64 x.fa), .val (.int .i64 x.fA), .val (.int .i64 x.fB), .val (.int .i64 x.fF), .val (.int .i64 x.fm), .val (.int .i64 x.fw), .val (.int .i64 x.fJ), .val (.int .i64 x.fu), .val (.int .i64 x.fr), .val (.int .i64 x.fM)]
structure BB where
 fb : Aa
 fK : List Int
 fq : List Al
 ft : List Ab
def K6 (x : BB) : List T := [.sl (x.fb.fc.map Au), .sl (x.fb.fk.map Au), .sl (x.fb.fp.map Au), .sl (x.fb.fd.map BF), .sl (x.fK.map Au), .sl (x.fq.map AM), .sl (x.ft.map AE)]
structure Ae where
 fh : List Int
 fe : List Int
 ff : List Int
def EW (x : Ae) : List T := [.sl (x.fh.map Au), .sl (x.fe.map Au), .sl (x.ff.map DL)]
structure Ah where
 fb : Aa
 fq : List Al
 fi : Int
 fy : Int
 fg : Ae
def E7 (x : Ah) : List T := [.sl (x.fb.fc.map Au), .sl (x.fb.fk.map Au), .sl (x.fb.fp.map Au), .sl (x.fb.fd.map BF), .sl (x.fq.map AM), .val (.int .i64 x.fi), .val (.int .i64 x.fy), .sl (x.fg.fh.map Au), .sl (x.fg.fe.map Au), .sl (x.fg.ff.map DL)]
structure A9 where
 fE : Int
 fG : Int
 fH : Bool
 fI : List (Int × Int)
structure IF where
 fi : Int
 fN : Bool
 fO : Bool
 fg : Ae
end Go.Lift
