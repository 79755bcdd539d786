/- Lemmas for RefuseCheckSaid, which YtpaobkaighpaaaaGreatFinR9 proves. -/
import Derived.Test.YtpaobkaighpaaaaGreatLift16
import Derived.ProofKit
import Derived.Shelf.SlSortCmp.NoneTotal
import Derived.MakeChecks
import Derived.Shelf.Strconv.Itoa3
import Derived.Shelf.Spec.TrailingZeros
import Derived.Shelf.SlLaysF
import Derived.Shelf.Strconv.Itoa4
import Derived.Laws.Runes
import Derived.Shelf.Strings.Builder1
import Derived.Deep.LoopGhost
import Derived.Deep.DeepFit
import Derived.Deep.Onto
import Derived.WalkKit
import Derived.Shelf.Spec.SlicesInsert
open Array renaming getD_eq_getD_getElem? → zB8, getElem?_append → zF8, getElem?_eq_none → zA8, getElem?_modify → zG7, length_toList → zC8, replicate → zG3, size_append → zB7
open Bool renaming and_eq_true → uV, and_eq_true_iff → zE1, false_eq_true → zF7, not_eq_true' → zE6, not_true → vM, or_eq_true → zC1, true_and → zA9
open List renaming all_cons → zC7, all_eq_true → uX, append_assoc → zB1, cons_append → zF5, drop_eq_nil_of_le → vH, eq_nil_iff_forall_not_mem → zF0, eq_nil_of_length_eq_zero → zA4, getD_cons_zero → zH2, getElem?_append_left → zA0, getElem?_append_right → zA3, getElem?_drop → zB0, getElem?_eq_getElem → vP, getElem?_eq_none → zC0, getElem?_map → vC, getElem?_take_of_lt → vX, getElem_idxOf → zH4, getElem_mem → zB2, idxOf_lt_length_of_mem → zF4, length → zD6, length_append → zA2, length_cons → vV, length_map → vT, map_congr_left → zF2, map_cons → zA1, map_eq_nil_iff → zH1, map_nil → zE7, map_toArray → zD3, mem_cons → vI, mem_iff_getElem? → vO, mem_map → zA6, nodup_cons → zD0, pairwise_cons → zC3, pairwise_iff_getElem → zE3, range → vK, range' → zG0, replicate → uY, take_length → zH0
open Nat renaming add_assoc → zC9, add_mul → vU, add_sub_cancel_left → zB5, add_zero → zB6, ble → zD5, ble_eq_true_of_le → zF1, blt_eq → zD7, le_of_ble_eq_true → vY, le_refl → vN, le_trans → zG6, lt_or_ge → zA7, min → zB4, mul_le_mul_right → uU, pos_of_ne_zero → zG9, succ_mul → vZ, zero_add → uT, zero_le → vG
open Option renaming getD_some → vW, map_some → zC2
namespace Go.Lift
open Go.RowKit
variable {P : Program} {X : Io} {ops : Array Oper}
def JK (P : Program) : Nat → List Field → Option (List Nat)
 | _, [] => some []
 | k, f :: fs => if f.name == "_" || f.offset != k then none else match P.underlying f.type with
  | some (.int _) => (JK P (k + 1) fs).map (0 :: ·)
  | some .bool => (JK P (k + 1) fs).map (1 :: ·)
  | some .string => (JK P (k + 1) fs).map (2 :: ·)
  | _ => none
def T7 (P : Program) (t : TypeId) : Option (List Nat) :=
 match P.underlying t with
 | some (.struct fs) => if P.stoodInHeld t || P.eqGuardType P.depth t then none else JK P 0 fs.toList
 | _ => none
def FM : List Nat → List Value → List Value → Option Bool
 | [], [], [] => some true
 | 0 :: ts, .int k a :: ar, .int k' b :: bs => if k = k' then (FM ts ar bs).map (fun r => (a == b) && r) else none
 | 1 :: ts, .bool a :: ar, .bool b :: bs => (FM ts ar bs).map (fun r => (a == b) && r)
 | 2 :: ts, .string a :: ar, .string b :: bs => (FM ts ar bs).map (fun r => (a.toList == b.toList) && r)
 | _, _, _ => none
theorem UR {ts : List Nat} {ar bs : List Value} {r : Bool} (h : FM (0 :: ts) ar bs = some r) : ∃ k a ar' b bs' r', ar = .int k a :: ar' ∧ bs = .int k b :: bs' ∧ FM ts ar' bs' = some r' ∧ r = ((a == b) && r') := by
 unfold FM at h
 split at h <;> try (exfalso; simp_all; done)
 rename_i ts' k a ar' k' b bs' e
 cases e
 split at h
 ·rename_i e; subst e
  cases hel : FM ts ar' bs' with
  | none => rw [hel] at h; cases h
  | some r' =>
   rw [hel] at h
   exact ⟨k, a, ar', b, bs', r', rfl, rfl, hel, by simpa using h.symm⟩
 ·cases h
theorem Vr {ts : List Nat} {ar bs : List Value} {r : Bool} (h : FM (1 :: ts) ar bs = some r) : ∃ a ar' b bs' r', ar = .bool a :: ar' ∧ bs = .bool b :: bs' ∧ FM ts ar' bs' = some r' ∧ r = ((a == b) && r') := by
 unfold FM at h
 split at h <;> try (exfalso; simp_all; done)
 rename_i ts' a ar' b bs' e
 cases e
 cases hel : FM ts ar' bs' with
 | none => rw [hel] at h; cases h
 | some r' =>
  rw [hel] at h
  exact ⟨a, ar', b, bs', r', rfl, rfl, hel, by simpa using h.symm⟩
theorem UQ {ts : List Nat} {ar bs : List Value} {r : Bool} (h : FM (2 :: ts) ar bs = some r) : ∃ a ar' b bs' r', ar = .string a :: ar' ∧ bs = .string b :: bs' ∧ FM ts ar' bs' = some r' ∧ r = ((a.toList == b.toList) && r') := by
 unfold FM at h
 split at h <;> try (exfalso; simp_all; done)
 rename_i ts' a ar' b bs' e
 cases e
 cases hel : FM ts ar' bs' with
 | none => rw [hel] at h; cases h
 | some r' =>
  rw [hel] at h
  exact ⟨a, ar', b, bs', r', rfl, rfl, hel, by simpa using h.symm⟩
theorem PT {t : TypeId} (h : Fp P t false = true) {cs : Array Value} {off : Nat} {v : Value} (hv : cs[off]? = some v) (w : World) : (part t cs off).run P w = .ok v w := by
 unfold part
 refine Ai (HC h w) ?_
 simp only [zF7, if_false, hv]
 rfl
theorem Ob (d : Nat) (xs ys : Array Value) (w : World) : ∀ (fs : List Field) (ts : List Nat) (k : Nat) (ar bs : List Value) (r : Bool), JK P k fs = some ts → (∀ (j : Nat) (v : Value), ar[j]? = some v → xs[k + j]? = some v) → (∀ (j : Nat) (v : Value), bs[j]? = some v → ys[k + j]? = some v) → FM ts ar bs = some r →
  (Op.eqFields (d + 1) xs ys fs).run P w = .ok r w
 | [], ts, k, ar, bs, r, ht, hx, hy, he => by
  cases ht
  cases ar <;> cases bs <;> simp [FM] at he
  subst he; rfl
 | f :: fs, ts, k, ar, bs, r, ht, hx, hy, he => by
  simp only [JK] at ht
  split at ht
  ·cases ht
  ·rename_i hn
   simp only [zC1, not_or, beq_iff_eq, bne_iff_ne, ne_eq, Decidable.not_not] at hn
   obtain ⟨hn1, hn2⟩ := hn
   subst hn2
   have step : ∀ (ts' : List Nat) (a b : Value) (ar' bs' : List Value) (q r' : Bool), ar = a :: ar' → bs = b :: bs' → JK P (f.offset + 1) fs = some ts' → FM ts' ar' bs' = some r' → Fp P f.type false = true → (Op.equalIn (d + 1) f.type a b).run P w = .ok q w →
     (Op.eqFields (d + 1) xs ys (f :: fs)).run P w = .ok (q && r') w := by
    intro ts' a b ar' bs' q r' ha hb htl hel hag heq
    subst ha; subst hb
    have h1 : xs[f.offset]? = some a := hx 0 a rfl
    have h2 : ys[f.offset]? = some b := hy 0 b rfl
    simp only [Op.eqFields, hn1, ne_eq, not_false_eq_true, if_true]
    refine Ai (PT hag h1 w) (Ai (PT hag h2 w) (Ai heq ?_))
    cases q
    ·simp
    ·simp only [vM, zF7, if_false, zA9]
     exact Ob d xs ys w fs ts' (f.offset + 1) ar' bs' r' htl (fun j v hj => by rw [show f.offset + 1 + j = f.offset + (j + 1) from by omega]; exact hx (j + 1) v hj) (fun j v hj => by rw [show f.offset + 1 + j = f.offset + (j + 1) from by omega]; exact hy (j + 1) v hj) hel
   split at ht
   ·rename_i kk hu
    cases htl : JK P (f.offset + 1) fs with
    | none => rw [htl] at ht; cases ht
    | some ts' =>
     rw [htl] at ht; cases ht
     obtain ⟨k1, a1, ar', b1, bs', r', e1, e2, hel, rfl⟩ := UR he
     subst e1; subst e2
     exact step ts' _ _ ar' bs' _ r' rfl rfl htl hel (by unfold Fp; rw [hu]; rfl) (run_equalIn_int w d f.type k1 kk a1 b1 hu)
   ·rename_i hu
    cases htl : JK P (f.offset + 1) fs with
    | none => rw [htl] at ht; cases ht
    | some ts' =>
     rw [htl] at ht; cases ht
     obtain ⟨a1, ar', b1, bs', r', e1, e2, hel, rfl⟩ := Vr he
     subst e1; subst e2
     exact step ts' _ _ ar' bs' _ r' rfl rfl htl hel (by unfold Fp; rw [hu]; rfl) (run_equalIn_bool' w d f.type a1 b1 hu)
   ·rename_i hu
    cases htl : JK P (f.offset + 1) fs with
    | none => rw [htl] at ht; cases ht
    | some ts' =>
     rw [htl] at ht; cases ht
     obtain ⟨a1, ar', b1, bs', r', e1, e2, hel, rfl⟩ := UQ he
     subst e1; subst e2
     exact step ts' _ _ ar' bs' _ r' rfl rfl htl hel (by unfold Fp; rw [hu]; rfl) (run_equalIn_string w d f.type a1 b1 hu)
   ·cases ht
theorem Mm {t : TypeId} {ts : List Nat} (h : T7 P t = some ts) {ar bs : List Value} {r : Bool} (hr : FM ts ar bs = some r) (w : World) :
  (Op.equalIn 10000 t (.agg ar.toArray) (.agg bs.toArray)).run P w = .ok r w ∧ P.eqGuardType P.depth t = false := by
 unfold T7 at h
 split at h
 ·rename_i fs hu
  split at h
  ·cases h
  ·rename_i hn
   simp only [zC1, not_or, Bool.not_eq_true] at hn
   have hf : P.fieldsOf t = fs := by unfold Program.fieldsOf; rw [hu]
   refine ⟨?_, hn.2⟩
   rw [run_equalIn_struct w 9999 t _ _ (by rw [hf]; exact hu) hn.1, hf]
   exact Ob 9998 _ _ w fs.toList ts 0 ar bs r h (fun j v hj => by simpa using hj) (fun j v hj => by simpa using hj) hr
 ·cases h
abbrev aD (ar : List Value) : D := .e (.agg (ar.map fun v => .pure (.val v)))
theorem Qe {w : World} {G : Gh} {v : Value} {ar : List Value} (h : HE P w G v (aD ar)) : v = .agg ar.toArray := by
 obtain ⟨vs, rfl, hs, h⟩ := h
 congr 1
 have hs' : vs.size = ar.length := by simpa using hs
 apply Array.ext
 ·simpa using hs'
 ·intro j h1 h2
  have hj : j < ar.length := by omega
  have : Fv P w G (Au vs j) (.pure (.val ar[j])) := h j _ (by simp [hj])
  have h3 := EJ (this : D3 w G.S _ (.val _))
  simpa [Au, h1] using h3
section run
variable {dr : Bool} {Q : St → Prop} {r i : Nat} {st : St} {log : List (Nat × CV)} {o : Oper} {gs : List (Operand × D)}
theorem Vn {xt yt : TypeId} {x y : Operand} {s : Nat} {ts : List Nat} {b : Bool} (ar bs : List Value) (hat : At st.env ops i X.n (.binOp .eql xt x y yt) s gs)
  (hx : opd st.env x = some (aD ar)) (hy : opd st.env y = some (aD bs)) (ht : T7 P xt = some ts) (he : FM ts ar bs = some b)
  (next : Bd P X ops dr Q r (i + 1) (CV.upd ⟨gs ++ [(x, aD ar), (y, aD bs)], [], some s, some (bD b), [], []⟩ st) ((i, ⟨gs ++ [(x, aD ar), (y, aD bs)], [], some s, some (bD b), [], []⟩) :: log)) : Bd P X ops dr Q (r + 1) i st log := by
 obtain ⟨o, ho, hop, hd, hn, hg, hgp⟩ := hat.out
 refine Bd.step next ⟨Am.2 ⟨hgp, hx, hy, trivial⟩, trivial, trivial⟩ (LR.value ho hg rfl hd.symm (DW hd hn) ?_)
 intro G st a w hs hpre
 obtain ⟨hx, hy, _⟩ := (Am.1 hpre.r).2
 have hX := Qe (hs.opd hx)
 have hY := Qe (hs.opd hy)
 obtain ⟨h1, h2⟩ := Mm ht he w
 refine ⟨.bool b, w, G, ?_, hs, ?_⟩
 ·simp only [execOp, hop, hX, hY]
  refine Ai (a := .bool b) (w1 := w) (Ai (run_eqGuard_agg w .eql xt x y _ _ h2) ?_) rfl
  rw [run_eql_struct, h1]; rfl
 ·rintro d ⟨⟩
  exact ⟨.val _ rfl, fun b hb => by cases hb⟩
theorem XH {xt yt : TypeId} {x y : Operand} {s : Nat} {ts : List Nat} {b : Bool} (ar bs : List Value) (hat : At st.env ops i X.n (.binOp .neq xt x y yt) s gs)
  (hx : opd st.env x = some (aD ar)) (hy : opd st.env y = some (aD bs)) (ht : T7 P xt = some ts) (he : FM ts ar bs = some b)
  (next : Bd P X ops dr Q r (i + 1) (CV.upd ⟨gs ++ [(x, aD ar), (y, aD bs)], [], some s, some (bD (!b)), [], []⟩ st) ((i, ⟨gs ++ [(x, aD ar), (y, aD bs)], [], some s, some (bD (!b)), [], []⟩) :: log)) : Bd P X ops dr Q (r + 1) i st log := by
 obtain ⟨o, ho, hop, hd, hn, hg, hgp⟩ := hat.out
 refine Bd.step next ⟨Am.2 ⟨hgp, hx, hy, trivial⟩, trivial, trivial⟩ (LR.value ho hg rfl hd.symm (DW hd hn) ?_)
 intro G st a w hs hpre
 obtain ⟨hx, hy, _⟩ := (Am.1 hpre.r).2
 have hX := Qe (hs.opd hx)
 have hY := Qe (hs.opd hy)
 obtain ⟨h1, h2⟩ := Mm ht he w
 refine ⟨.bool (!b), w, G, ?_, hs, ?_⟩
 ·simp only [execOp, hop, hX, hY]
  refine Ai (a := .bool (!b)) (w1 := w) (Ai (run_eqGuard_agg w .neq xt x y _ _ h2) ?_) rfl
  rw [run_neq_struct, h1]; rfl
 ·rintro d ⟨⟩
  exact ⟨.val _ rfl, fun b hb => by cases hb⟩
theorem Qp {xt yt : TypeId} {x : Operand} {s e : Nat} {rows : List (List T)} (hat : At st.env ops i X.n (.binOp .eql xt x (.const (.slice none 0 0)) yt) s gs)
  (hx : opd st.env x = some (one (.sl rows))) (ht : sliceB P xt e = true)
  (next : Bd P X ops dr Q r (i + 1) (CV.upd ⟨gs ++ [(x, one (.sl rows))], [], some s, some (.e (.one (.nilq (rows = [])))), [], []⟩ st) ((i, ⟨gs ++ [(x, one (.sl rows))], [], some s, some (.e (.one (.nilq (rows = [])))), [], []⟩) :: log)) : Bd P X ops dr Q (r + 1) i st log := by
 obtain ⟨o, ho, hop, hd, hn, hg, hgp⟩ := hat.out
 refine Bd.step next ⟨Am.2 ⟨hgp, hx, trivial⟩, trivial, trivial⟩ (LR.value ho hg rfl hd.symm (DW hd hn) ?_)
 intro G st a w hs hpre
 obtain ⟨hx, _⟩ := (Am.1 hpre.r).2
 have hX : D3 w G.S (a.eval x) (.sl rows) := hs.opd hx
 obtain ⟨av, l, c, hv, hq⟩ : ∃ av l c, a.eval x = .slice av l c ∧ (av.isNone = true → rows = []) := by
  generalize a.eval x = v at hX
  cases hX with
  | nil av cap => exact ⟨av, 0, cap, rfl, fun _ => rfl⟩
  | sl β off cap e arr el fz rows h1 h2 h3 h4 h5 h6 => exact ⟨_, _, _, rfl, fun h => by cases h⟩
 have hu : P.underlying xt = some (.slice e) := by
  unfold sliceB at ht
  split at ht
  ·rename_i e' he; rw [he]; simp at ht; rw [ht]
  ·cases ht
 refine ⟨.bool av.isNone, w, G, ?_, hs, ?_⟩
 ·simp only [execOp, hop, hv]
  refine Ai (a := .bool av.isNone) (w1 := w) (Ai (a := ()) (w1 := w) (by simp [eqGuard]) ?_) rfl
  have h1 : (Op.equalIn (9999 + 1) xt (.slice av l c) (.slice none 0 0)).run P w = .ok av.isNone w := by
   generalize 9999 = dd
   cases av <;> (unfold Op.equalIn; exact Ai (AI hu w) rfl)
  simp only [binOp, Act.eval]
  refine Ai (a := av.isNone) (w1 := w) ?_ rfl
  exact h1
 ·rintro d ⟨⟩
  exact ⟨⟨_, rfl, hq⟩, fun b hb => by cases hb⟩
end run
theorem QJ {c : Operand} {x y : Code} {Q : Exit → St → Prop} {st : St} {p : Prop} (hc : opd st.env c = some (.e (.one (.nilq p)))) (ht : p → W P X x Q st) (hf : W P X y Q st) : W P X (.cond c x y) Q st := by
 intro a w hs
 obtain ⟨b, hcv, hp⟩ : ∃ b, a.eval c = .bool b ∧ (b = true → p) := by
  obtain ⟨G, hs⟩ := hs
  exact hs.opd hc
 cases b with
 | true => exact wp_cond_true hcv (ht (hp rfl) a w hs)
 | false => exact wp_cond_false hcv (hf a w hs)
end Go.Lift
namespace Go.Lift
open List renaming mem_of_getElem? → lM
open Go.RowKit
variable {P : Program} {X : Io} {ops : Array Oper}
def QD : Bool × List T → D
 | (true, ts) => .e (.agg (ts.map .pure))
 | (false, ts) => .e (.one (.pure (ts.headD .nil0)))
def Xv : Bool × List T → Bool
 | (true, _) => true
 | (false, ts) => match ts with | [_] => true | _ => false
theorem Yi {w : World} {S : Nat → Prop} {G : Gh} {v : Value} {x : Bool × List T} (h : HE P w G v (QD x)) (hS : ∀ β, G.S β → S β) (hx : Xv x = true) : Yp w S v x := by
 obtain ⟨b, ts⟩ := x
 cases b with
 | false =>
  match ts, hx with
  | [t], _ => exact ⟨t, rfl, D3.mono (show D3 w G.S v t from h) (fun _ _ => rfl) hS⟩
 | true =>
  obtain ⟨vs, e, hs, h⟩ := h
  refine ⟨vs, e, by simpa using hs, fun j t hj => ?_⟩
  have : Fv P w G (Au vs j) (.pure t) := h j (.pure t) (by simp [hj])
  exact D3.mono this (fun _ _ => rfl) hS
theorem U0 {w : World} {S : Nat → Prop} {v : Value} {x : Bool × List T} (h : Yp w S v x) : HE P w (G0 S) v (QD x) := by
 obtain ⟨b, ts⟩ := x
 cases b with
 | false =>
  obtain ⟨t, rfl, h⟩ := h
  exact h
 | true =>
  obtain ⟨vs, e, hs, h⟩ := h
  refine ⟨vs, e, by simpa using hs, fun j c hj => ?_⟩
  rw [vC] at hj
  cases hx : ts[j]? with
  | none => rw [hx] at hj; cases hj
  | some t => rw [hx] at hj; cases hj; exact h j t hx
noncomputable def HT {α ρ : Type} (ea : α → List (Bool × List T)) (er : ρ → T) (q : α → Option ρ) : List (Bool × List T) → Option T := fun ar =>
 open Classical in if h : ∃ x r, ea x = ar ∧ q x = some r then some (er (Classical.choose (Classical.choose_spec h))) else none
theorem GI {α ρ : Type} {ea : α → List (Bool × List T)} {er : ρ → T} {q : α → Option ρ} {ar : List (Bool × List T)} {t : T} (h : HT ea er q ar = some t) : ∃ x r, ar = ea x ∧ q x = some r ∧ t = er r := by
 unfold HT at h
 split at h
 ·rename_i hx
  cases h
  have := Classical.choose_spec (Classical.choose_spec hx)
  exact ⟨_, _, this.1.symm, this.2, rfl⟩
 ·cases h
theorem JC {α ρ : Type} {ea : α → List (Bool × List T)} {er : ρ → T} {q : α → Option ρ} (inj : ∀ x y, ea x = ea y → x = y) {x : α} {r : ρ} (h : q x = some r) : HT ea er q (ea x) = some (er r) := by
 have hx : ∃ y s, ea y = ea x ∧ q y = some s := ⟨x, r, rfl, h⟩
 unfold HT
 rw [dif_pos hx]
 have h1 := Classical.choose_spec (Classical.choose_spec hx)
 have h2 := inj _ _ h1.1
 have h3 : q (Classical.choose hx) = some r := by rw [h2]; exact h
 exact congrArg (fun z => some (er z)) (Option.some.inj (h3.symm.trans h1.2)).symm
structure Uk {α β : Type} (f : α → β) : Prop where
 inj : ∀ x y, f x = f y → x = y
def M1 {α : Type} (b : Bool) (e : α → List T) (x : α) : List (Bool × List T) := [(b, e x)]
def Uj {α β : Type} (b : Bool) (e : α → List T) (b' : Bool) (e' : β → List T) (x : α × β) : List (Bool × List T) := [(b, e x.1), (b', e' x.2)]
theorem Mx {α : Type} (b : Bool) (e : α → List T) (h : Uk e) : ∀ x y, M1 b e x = M1 b e y → x = y := by
 intro x y hxy
 simp only [M1, List.cons.injEq, Prod.mk.injEq, true_and, and_true] at hxy
 exact h.inj _ _ hxy
theorem QO {α β : Type} (b : Bool) (e : α → List T) (b' : Bool) (e' : β → List T) (h : Uk e) (h' : Uk e') : ∀ x y, Uj b e b' e' x = Uj b e b' e' y → x = y := by
 intro x y hxy
 simp only [Uj, List.cons.injEq, Prod.mk.injEq, true_and, and_true] at hxy
 exact Prod.ext (h.inj _ _ hxy.1) (h'.inj _ _ hxy.2)
theorem MA {α β : Type} {f : α → β} (h : ∀ x y, f x = f y → x = y) : ∀ (xs ys : List α), xs.map f = ys.map f → xs = ys
 | [], [], _ => rfl
 | [], _ :: _, e => by cases e
 | _ :: _, [], e => by cases e
 | x :: xs, y :: ys, e => by
  simp only [zA1, List.cons.injEq] at e
  rw [h _ _ e.1, MA h _ _ e.2]
theorem NN {f : FuncId} {g : List (Bool × List T) → Option T} (hf : AF P f = true) (hclo : ∀ ar t, g ar = some t → Ar P f (ar.map QD) [] (one t)) {w : World} {S : Nat → Prop} {v : Value} (h : HE P w (G0 S) v (.e (.one (.fnc f)))) : HE P w (G0 S) v (.e (.one (.clo g))) := by
 refine ⟨f, #[], h, ?_, ?_⟩
 ·unfold AF at hf
  split at hf
  ·rename_i fn h0
   simp only [uV, zE6] at hf
   exact ⟨fn, h0, hf.2, hf.1⟩
  ·cases hf
 ·intro w' S' _ _ hlt hgk vs ar r0 hvs has hgr
  refine (hclo ar r0 hgr w' S' (vs ++ #[]) hlt hgk (by simp [hvs]) ?_).mono ?_
  ·intro j d hj
   rw [vC] at hj
   cases hx0 : ar[j]? with
   | none => rw [hx0] at hj; cases hj
   | some y =>
    rw [hx0] at hj; cases hj
    rw [Array.append_empty]
    exact U0 (has j y hx0)
  ·rintro e w'' ⟨v, G', rfl, hbel, h1, h2, h3, _⟩
   exact ⟨v, G'.S, rfl, hbel, h1, h2, h3⟩
def YL (P : Program) : List D → List D → Prop
 | [], [] => True
 | a :: ar, b :: bs => (∀ (w : World) (S : Nat → Prop) (v : Value), HE P w (G0 S) v a → HE P w (G0 S) v b) ∧ YL P ar bs
 | _, _ => False
theorem YL.get : ∀ {ar bs : List D}, YL P ar bs → ar.length = bs.length ∧ ∀ (j : Nat) (b : D), bs[j]? = some b → ∃ a, ar[j]? = some a ∧ ∀ (w : World) (S : Nat → Prop) (v : Value), HE P w (G0 S) v a → HE P w (G0 S) v b
 | [], [], _ => ⟨rfl, fun j b h => by simp at h⟩
 | a :: ar, b :: bs, h => by
  obtain ⟨h1, h2⟩ := YL.get h.2
  refine ⟨by simp [h1], fun j c hj => ?_⟩
  cases j with
  | zero => simp at hj; subst hj; exact ⟨a, rfl, h.1⟩
  | succ j => obtain ⟨a', g1, g2⟩ := h2 j c (by simpa using hj); exact ⟨a', by simpa using g1, g2⟩
theorem Ar.weak {f : FuncId} {ds ds' : List D} {rv : List (Nat × List (List T))} {res : D} (h : Ar P f ds rv res) (hp : YL P ds' ds) : Ar P f ds' rv res := by
 intro w S vs hS hgk hlen hargs
 obtain ⟨h1, h2⟩ := hp.get
 refine h w S vs hS hgk (by rw [hlen, h1]) fun j d hj => ?_
 obtain ⟨a, g1, g2⟩ := h2 j d hj
 exact g2 w S _ (hargs j a g1)
section run
variable {dr : Bool} {Q : St → Prop} {r i : Nat} {st : St} {log : List (Nat × CV)} {o : Oper} {gs : List (Operand × D)}
theorem ST {f : FuncId} (h : AF P f = true) : ∃ fn, P.funcs[f]? = some fn ∧ fn.body.isSome = true ∧ (fn.name == "runtime.NumGoroutine") = false := by
 unfold AF at h
 split at h
 ·rename_i fn hf
  simp only [uV, zE6] at h
  exact ⟨fn, hf, h.2, h.1⟩
 ·cases h
theorem Kj {f : FuncId} {s : Nat} {xs : List Operand} {capD : List D} (g : List (Bool × List T) → Option T) (hat : At st.env ops i X.n (.makeFunc (.func f) #[] xs.toArray) s gs)
  (hf : AF P f = true) (hl : xs.length = capD.length) (hx : FX st.env (HJ xs capD)) (hpub : capD.all RJ = true)
  (hclo : ∀ ar t, g ar = some t → Ar P f (ar.map QD ++ capD) [] (one t))
  (next : Bd P X ops dr Q r (i + 1) (CV.upd ⟨gs ++ HJ xs capD, [], some s, some (.e (.one (.clo g))), [], []⟩ st) ((i, ⟨gs ++ HJ xs capD, [], some s, some (.e (.one (.clo g))), [], []⟩) :: log)) : Bd P X ops dr Q (r + 1) i st log := by
 obtain ⟨o, ho, hop, hd, hn, hg, hgp⟩ := hat.out
 refine Bd.step next ⟨Am.2 ⟨hgp, hx⟩, trivial, trivial⟩ (LR.value ho hg rfl hd.symm (DW hd hn) ?_)
 intro G st a w hs hpre
 have hx := (Am.1 hpre.r).2
 refine ⟨.func (.func f) #[] (xs.toArray.map a.eval), w, G, ?_, hs, ?_⟩
 ·simp only [execOp, hop]
  exact Ai (a := .func (.func f) #[] (xs.toArray.map a.eval)) (w1 := w) (by simp [Instr.makeFunc]) rfl
 ·rintro d ⟨⟩
  refine ⟨⟨f, _, rfl, ST hf, ?_⟩, fun b hb => by cases hb⟩
  intro w' S' hS' hw' hlt hgk vs ar r0 hvs has hgr
  refine (hclo ar r0 hgr w' S' (vs ++ xs.toArray.map a.eval) hlt hgk (by simp [hvs, hl]) ?_).mono ?_
  ·intro j d hj
   by_cases hja : j < ar.length
   ·rw [zA0 (by simpa using hja), vC] at hj
    have hx0 : ar[j]? = some ar[j] := by simp [hja]
    rw [hx0] at hj; cases hj
    rw [Bi (by omega)]
    exact U0 (has j _ hx0)
   ·rw [zA3 (by simp; omega)] at hj
    simp only [vT] at hj
    have hlt' := AK hj
    have hxj : xs[j - ar.length]? = some (xs[j - ar.length]'(by omega)) := by simp [show j - ar.length < xs.length from by omega]
    have hop' := Jb hl hx _ _ d hxj hj
    have hcell : Au (vs ++ xs.toArray.map a.eval) j = a.eval (xs[j - ar.length]'(by omega)) := by
     unfold Au
     rw [Array.getElem?_append_right (by omega), hvs]
     simp [show j - ar.length < xs.length from by omega]
    rw [hcell]
    have hcl : d.names = [] := by
     have := uX.1 hpub d (lM hj)
     simpa [RJ] using this
    exact ((hs.opd hop').mono (p := fun _ => False) (G' := G0 S') ⟨hS', fun _ h => h.elim, fun _ h => h.elim, fun _ h => h.elim⟩ hw' (fun b hb => by rw [hcl] at hb; cases hb))
  ·rintro e w'' ⟨v, G', rfl, hbel, h1, h2, h3, _⟩
   exact ⟨v, G'.S, rfl, hbel, h1, h2, h3⟩
theorem Kp {x : Operand} {g : List (Bool × List T) → Option T} {s : Nat} {xs : List Operand} {ds0 : List D} {ar : List (Bool × List T)} {r0 : T} {ts : Array TypeId} (hat : At st.env ops i X.n (.call ⟨.value x, xs.toArray, ts⟩) s gs)
  (hgx : opd st.env x = some (.e (.one (.clo g)))) (hl : xs.length = ds0.length) (hx : FX st.env (HJ xs ds0)) (hds : ds0.map D.nrm = ar.map QD) (_hpub : (ar.map QD).all RJ = true) (hok : ar.all Xv = true) (hr : g ar = some r0)
  (next : Bd P X ops dr Q r (i + 1) (CV.upd ⟨gs ++ ((x, .e (.one (.clo g))) :: HJ xs ds0), [], some s, some (one r0), [], []⟩ st) ((i, ⟨gs ++ ((x, .e (.one (.clo g))) :: HJ xs ds0), [], some s, some (one r0), [], []⟩) :: log)) : Bd P X ops dr Q (r + 1) i st log := by
 obtain ⟨o, ho, hop, hd, hn, hg, hgp⟩ := hat.out
 refine Bd.step next ⟨Am.2 ⟨hgp, hgx, hx⟩, trivial, trivial⟩ ?_
 intro st a w K Q' hs hpre hK
 obtain ⟨G, hs⟩ := hs
 obtain ⟨hgx, hx⟩ := (Am.1 hpre.r).2
 have hw := hs.wanted hg (Am.1 hpre.r).1
 unfold wpOp
 rw [ho]
 simp only [hw, if_true]
 refine .inl ?_
 unfold Oper.wp
 obtain ⟨f, caps, hv, ⟨fn, hf1, hf2, hf3⟩, hcall⟩ : Nb P w G.S (a.eval x) g := hs.opd hgx
 have hgood : AF P f = true := by unfold AF; rw [hf1]; simp [hf2]; simpa using hf3
 have hrun : (execOp a.eval o).run P w = .ok (.enter f (xs.toArray.map a.eval ++ caps)) w := by
  simp only [execOp, hop]
  simp only [resolve, hv, Deferred.ofValue]
  refine Ai (a := { target := .fn (.func f) caps, args := #[] ++ xs.toArray.map a.eval }) (w1 := w) rfl ?_
  simp only [invoke]
  rw [IN hgood]; simp
 rw [hrun]
 show Calls P f (xs.toArray.map a.eval ++ caps) w _
 have hlen : xs.length = ar.length := by
  have := congrArg zD6 hds
  simp at this; omega
 refine (hcall w G.S (fun _ h => h) (fun _ _ => rfl) hs.S_lt hs.gok (xs.toArray.map a.eval) ar r0 (by simp [hlen]) ?_ hr).mono ?_
 ·intro j y hj
  have hlt := AK hj
  have hd0 : ds0[j]? = some (ds0[j]'(by omega)) := by simp [show j < ds0.length from by omega]
  have hnrm : (ds0[j]'(by omega)).nrm = QD y := by
   have h1 : (ds0.map D.nrm)[j]? = (ar.map QD)[j]? := by rw [hds]
   rw [vC, vC, hd0, hj] at h1
   simpa using h1
  have hxj : xs[j]? = some (xs[j]'(by omega)) := by simp [show j < xs.length from by omega]
  have hop' := Jb hl hx j _ _ hxj hd0
  have hcell : Au (xs.toArray.map a.eval) j = a.eval (xs[j]'(by omega)) := by simp [Au, show j < xs.length from by omega]
  rw [hcell]
  have hrd := (hs.opd hop').nrm
  rw [hnrm] at hrd
  exact Yi hrd (fun _ h => h) (uX.1 hok y (lM hj))
 ·rintro e w' ⟨v, S'', rfl, hbel, hS1, hS2, hres⟩
  show K (a.put o.dst v) w'
  rw [hd]
  let G2 : Gh := { G with S := S'' }
  have hsz := hbel.size
  have hle := hs.below.size
  have key : DP P X G2 ⟨st.env, Be st.bx []⟩ a w' := by
   refine hs.frame (fun c hc => hc) ⟨hS1, fun _ _ => rfl, fun _ _ => rfl, fun _ _ => rfl⟩ (fun β hβ => hbel.block β (hs.S_lt β hβ)) ?_ ?_ ?_ ?_ ?_ (hs.below.trans (.of (hbel.mono hle))) (fun _ _ => ⟨rfl, rfl, rfl⟩)
   ·intro c k hc
    exact .inl ⟨hc, fun β hr hβ => hbel.block β (hs.at_ok c k β hc hr hβ).2.1⟩
   ·intro c k β hc hr hβ
    have := hs.at_ok c k β hc hr hβ
    refine ⟨this.1, by omega, fun h => ?_⟩
    rcases hS2 β h with h | h
    ·exact this.2.2 h
    ·omega
   ·intro c c' k k' β hc hc' hr hr' hβ hβ'
    exact hs.at_inj c c' k k' β hc hc' hr hr' hβ hβ'
   ·intro β h
    rcases hS2 β h with h | h
    ·have := hs.S_lt β h; omega
    ·exact h.2
   ·intro β h
    rcases hS2 β h with h | h
    ·exact hs.S_src β h
    ·exact .inr (by omega)
  refine hK _ _ ⟨G2, key.put (some s) (some (one r0)) v (by intro t e; cases e; exact hn) ?_⟩
  rintro d ⟨⟩
  exact ⟨hres, fun b hb => by cases hb⟩
end run
end Go.Lift
namespace Go.Lift
open Go.RowKit Go.ChangeShapes Go.WideShapes
section
variable {P : Program}
def LZ (P : Program) : Nat → List Field → Nat → Bool
 | o, [], n => o == n
 | o, f :: fs, n => f.offset == o && LZ P (o + P.cellsOf f.type) fs n
def JO (P : Program) : Nat → TypeId → Bool
 | 0, _ => false
 | d + 1, t => match P.underlying t with
  | some (.int _) => true
  | some .bool => true
  | some .string => true
  | some (.slice e) => decide (0 < P.cellsOf e) && JO P d e
  | some (.struct fs) => LZ P 0 fs.toList (P.cellsOf t) && fs.toList.all fun f => JO P d f.type
  | _ => false
def WY (F : TypeId → List T → Prop) : List TypeId → List T → Prop
 | [], ts => ts = []
 | t :: tys, ts => ∃ a b, ts = a ++ b ∧ F t a ∧ WY F tys b
def KW (P : Program) : Nat → TypeId → List T → Prop
 | 0, _, _ => False
 | d + 1, t, ts => match P.underlying t with
  | some (.int k) => ∃ n, ts = [.val (.int k n)] ∧ (Lit.int k n).wf = true
  | some .bool => ∃ b, ts = [.val (.bool b)]
  | some .string => ∃ s, ts = [.val (.string s)]
  | some (.slice e) => ∃ rows, ts = [.sl rows] ∧ ∀ row, row ∈ rows → KW P d e row
  | some (.struct fs) => WY (KW P d) (fs.toList.map (·.type)) ts
  | _ => False
def IF (w : World) (S : Nat → Prop) : List Value → List T → Prop
 | [], [] => True
 | v :: vs, t :: ts => D3 w S v t ∧ IF w S vs ts
 | _, _ => False
theorem IF.append {w : World} {S : Nat → Prop} : ∀ {a b : List Value} {x y : List T}, IF w S a x → IF w S b y → IF w S (a ++ b) (x ++ y)
 | [], _, [], _, _, h => h
 | _ :: _, _, _ :: _, _, h1, h2 => ⟨h1.1, IF.append h1.2 h2⟩
theorem IF.len {w : World} {S : Nat → Prop} : ∀ {a : List Value} {x : List T}, IF w S a x → a.length = x.length
 | [], [], _ => rfl
 | _ :: _, _ :: _, h => by simp [h.2.len]
theorem IF.get {w : World} {S : Nat → Prop} : ∀ {a : List Value} {x : List T}, IF w S a x → ∀ (j : Nat) (t : T), x[j]? = some t → ∃ v, a[j]? = some v ∧ D3 w S v t
 | [], [], _, j, t, hj => by simp at hj
 | v :: _, _ :: _, h, 0, t, hj => by simp at hj; subst hj; exact ⟨v, rfl, h.1⟩
 | _ :: _, _ :: _, h, j + 1, t, hj => by
  obtain ⟨v, h1, h2⟩ := h.2.get j t (by simpa using hj)
  exact ⟨v, by simpa using h1, h2⟩
theorem Nt {α : Type} {p : Nat → α → Prop} : ∀ (n : Nat), (∀ i, i < n → ∃ x, p i x) → ∃ l : List α, l.length = n ∧ ∀ i x, l[i]? = some x → p i x
 | 0, _ => ⟨[], rfl, fun i x h => by simp at h⟩
 | n + 1, h => by
  obtain ⟨l, h1, h2⟩ := Nt n (fun i hi => h i (by omega))
  obtain ⟨x, hx⟩ := h n (by omega)
  refine ⟨l ++ [x], by simp [h1], fun i y hi => ?_⟩
  by_cases hlt : i < l.length
  ·rw [zA0 hlt] at hi; exact h2 i y hi
  ·rw [zA3 (by omega)] at hi
   have : i - l.length = 0 := by
    have := AK hi
    simp at this; omega
   rw [this] at hi
   simp at hi; subst hi
   have : i = n := by omega
   subst this; exact hx
theorem KT {α : Type} {f : Nat → Option α} : ∀ {n : Nat} {l : List α}, (vK n).mapM f = some l → l.length = n ∧ ∀ i, i < n → f i = l[i]? := by
 intro n l h
 have h1 := mapM_some_length h
 refine ⟨by simpa using h1, fun i hi => ?_⟩
 exact mapM_some_get h i i (by simp [hi])
theorem Rn {w : World} {b o : Nat} {v : Value} (h : w.cell? ⟨b, o, none⟩ = some v) : ∃ arr el fz, w.heap[b]? = some (.cells arr el fz) ∧ arr[o]? = some v := by
 unfold World.cell? at h
 split at h
 ·rename_i c el fz hc
  exact ⟨c, el, fz, hc, by simpa using h⟩
 ·cases h
theorem W0 {w : World} {b : Nat} {o : Obj} (h : w.heap[b]? = some o) : b < w.heap.size := by
 rcases zA7 b w.heap.size with h1 | h1
 ·exact h1
 ·rw [zA8 h1] at h; cases h
abbrev Uh (w : World) : Nat → Prop := fun β => β < w.heap.size
theorem Pi {H : Type} {enc : TypeId × Value → H} {w : World} {sp : Nat → Bool} {held : Bool} {n d : Nat} {cs : List Value}
  (ih : ∀ (t : TypeId) (cs : List Value) (x : DataW H × List MemPlace), JO P d t = true → DataW.trod enc P w 0 sp held n t cs = some x → ∃ ts, IF w (Uh w) cs ts ∧ KW P d t ts) :
  ∀ (fs : List Field) (o : Nat), LZ P o fs cs.length = true → (fs.all fun f => JO P d f.type) = true →
   (∀ f, f ∈ fs → ∃ x, DataW.trod enc P w 0 sp held n f.type ((cs.drop f.offset).take (P.cellsOf f.type)) = some x) →
   ∃ ts, IF w (Uh w) (cs.drop o) ts ∧ WY (KW P d) (fs.map (·.type)) ts
 | [], o, hc, _, _ => by
  simp only [LZ, beq_iff_eq] at hc
  refine ⟨[], ?_, rfl⟩
  rw [vH (by omega)]; trivial
 | f :: fs, o, hc, hp, hx => by
  simp only [LZ, uV, beq_iff_eq] at hc
  simp only [zC7, uV] at hp
  obtain ⟨x, hx0⟩ := hx f (by simp)
  rw [hc.1] at hx0
  obtain ⟨ts, h1, h2⟩ := ih _ _ _ hp.1 hx0
  obtain ⟨us, h3, h4⟩ := Pi ih fs _ hc.2 hp.2 (fun g hg => hx g (by simp [hg]))
  refine ⟨ts ++ us, ?_, ⟨ts, us, rfl, h2, h4⟩⟩
  have : cs.drop o = (cs.drop o).take (P.cellsOf f.type) ++ cs.drop (o + P.cellsOf f.type) := by
   rw [← List.drop_drop, List.take_append_drop]
  rw [this]
  exact h1.append h3
theorem Qs {H : Type} {enc : TypeId × Value → H} {w : World} {sp : Nat → Bool} {held : Bool} : ∀ (d fuel : Nat) (t : TypeId) (cs : List Value) (x : DataW H × List MemPlace), JO P d t = true → DataW.trod enc P w 0 sp held fuel t cs = some x → ∃ ts, IF w (Uh w) cs ts ∧ KW P d t ts
 | 0, _, _, _, _, hp, _ => by cases hp
 | d + 1, fuel, t, cs, x, hp, hx => by
  unfold JO at hp
  unfold KW
  split at hp
  ·rename_i k hu
   obtain ⟨n, rfl, _, hw⟩ := DataW.trod_int hu hx
   exact ⟨[.val (.int k n)], ⟨.val _ rfl, trivial⟩, n, rfl, hw⟩
  ·rename_i hu
   obtain ⟨b, rfl, _⟩ := DataW.trod_bool hu hx
   exact ⟨[.val (.bool b)], ⟨.val _ rfl, trivial⟩, b, rfl⟩
  ·rename_i hu
   obtain ⟨b, rfl, _⟩ := DataW.trod_string hu hx
   exact ⟨[.val (.string b)], ⟨.val _ rfl, trivial⟩, b, rfl⟩
  ·rename_i e hu
   simp only [uV, decide_eq_true_eq] at hp
   rcases DataW.trod_slice hu hx with ⟨rfl, _⟩ | ⟨a, len, cap, elems, rest, n, rfl, rfl, _, _, hl, _, hlen, hel, _, _⟩
   ·exact ⟨[.sl []], ⟨.nil none 0, trivial⟩, [], rfl, fun row h => by cases h⟩
   ·have hrow : ∀ i, i < len → ∃ row, ∃ csi, w.cells? 0 (a.add (i * P.cellsOf e)) (P.cellsOf e) = some csi ∧ IF w (Uh w) csi row ∧ KW P d e row := by
     intro i hi
     have h1 := hel i hi
     have h2 : elems[i]? = some (elems[i]'(by omega)) := by simp [show i < elems.length from by omega]
     rw [h2] at h1
     obtain ⟨csi, h3, h4⟩ := Option.bind_eq_some_iff.1 h1
     obtain ⟨row, h5, h6⟩ := Qs d n e csi _ hp.2 h4
     exact ⟨row, csi, h3, h5, h6⟩
    obtain ⟨rows, hrl, hrows⟩ := Nt len hrow
    subst hrl
    refine ⟨[.sl rows], ⟨?_, trivial⟩, rows, rfl, fun row hm => ?_⟩
    ·cases hr0 : rows with
     | nil => exact .nil _ _
     | cons r0 rs0 =>
      rw [← hr0]
      have hpos : 0 < rows.length := by rw [hr0]; simp
      -- each cell
      have hcell : ∀ (i : Nat) (row : List T) (j : Nat) (u : T), rows[i]? = some row → row[j]? = some u → j < P.cellsOf e ∧ ∃ v, w.cell? ((a.add (i * P.cellsOf e)).add j) = some v ∧ D3 w (Uh w) v u := by
       intro i row j u hi hj
       obtain ⟨csi, h1, h2, _⟩ := hrows i row hi
       obtain ⟨v, h3, h4⟩ := h2.get j u hj
       unfold World.cells? at h1
       rw [if_pos (vG _)] at h1
       obtain ⟨h5, h6⟩ := KT h1
       have hjl : j < P.cellsOf e := by have := AK h3; omega
       exact ⟨hjl, v, by rw [h6 j hjl, h3], h4⟩
      have hrlen : ∀ (i : Nat) (row : List T), rows[i]? = some row → row.length = P.cellsOf e := by
       intro i row hi
       obtain ⟨csi, h1, h2, _⟩ := hrows i row hi
       unfold World.cells? at h1
       rw [if_pos (vG _)] at h1
       obtain ⟨h5, _⟩ := KT h1
       rw [← h2.len, h5]
      have hget : ∀ i (hi : i < rows.length), rows[i]? = some (rows[i]'hi) := fun i hi => by simp [hi]
      have hr00 := hget 0 hpos
      have hl0 := hrlen 0 _ hr00
      obtain ⟨_, v0, hv0, _⟩ := hcell 0 _ 0 ((rows[0]'hpos)[0]'(by omega)) hr00 (by simp)
      have hadd0 : (a.add (0 * P.cellsOf e)).add 0 = a := by simp [Addr.add]
      rw [hadd0] at hv0
      have hspot := World.cell?_spot hv0
      obtain ⟨β, off, spot⟩ := a
      simp only at hspot
      subst hspot
      obtain ⟨arr, el, fz, hb, _⟩ := Rn hv0
      have hadd : ∀ i j : Nat, ((⟨β, off, none⟩ : Addr).add (i * P.cellsOf e)).add j = ⟨β, off + i * P.cellsOf e + j, none⟩ := by
       intro i j
       unfold Addr.add
       split
       ·rename_i h1
        split
        ·rename_i h2; rw [h2]; simp
        ·rename_i h2; simp only [Addr.mk.injEq, true_and, and_true]; omega
       ·split <;> simp_all <;> omega
      have hat : ∀ (i : Nat) (row : List T) (j : Nat) (u : T), rows[i]? = some row → row[j]? = some u → off + i * P.cellsOf e + j < arr.size ∧ D3 w (Uh w) (Au arr (off + i * P.cellsOf e + j)) u := by
       intro i row j u hi hj
       obtain ⟨_, v, h1, h2⟩ := hcell i row j u hi hj
       rw [hadd] at h1
       obtain ⟨arr', el', fz', h3, h4⟩ := Rn h1
       rw [hb] at h3; cases h3
       have hlt : off + i * P.cellsOf e + j < arr.size := by
        rcases zA7 (off + i * P.cellsOf e + j) arr.size with h | h
        ·exact h
        ·rw [zA8 h] at h4; cases h4
       refine ⟨hlt, ?_⟩
       have : Au arr (off + i * P.cellsOf e + j) = v := by unfold Au; rw [h4]; rfl
       rw [this]; exact h2
      refine .sl β off cap (P.cellsOf e) arr el fz rows (W0 hb) hb hl ?_ hrlen (fun i row j u hi hj => (hat i row j u hi hj).2)
      have hil := hget (rows.length - 1) (by omega)
      have hll := hrlen _ _ hil
      have h7 := (hat (rows.length - 1) _ (P.cellsOf e - 1) ((rows[rows.length - 1]'(by omega))[P.cellsOf e - 1]'(by omega)) hil (by simp)).1
      have h8 : rows.length * P.cellsOf e = (rows.length - 1) * P.cellsOf e + P.cellsOf e := by
       rw [← vZ]; congr 1; omega
      omega
    ·obtain ⟨i, hi⟩ := vO.1 hm
     obtain ⟨_, _, _, h⟩ := hrows i row hi
     exact h
  ·rename_i fs hu
   simp only [uV] at hp
   obtain ⟨xs, n, rfl, _, hcl, hxl, hf⟩ := DataW.trod_struct hu hx
   have := Pi (enc := enc) (sp := sp) (held := held) (cs := cs) (fun t cs x h1 h2 => Qs d n t cs x h1 h2) fs.toList 0 (by rw [hcl]; exact hp.1) hp.2 (fun f hm => by
    obtain ⟨i, hi⟩ := vO.1 hm
    have hi' : fs[i]? = some f := by simpa using hi
    have h1 := hf i f hi'
    have hlt : i < fs.size := by
     have := AK hi
     simpa using this
    exact ⟨xs[i]'(by omega), by rw [h1]; simp [show i < xs.length from by omega]⟩)
   simpa using this
  ·cases hp
end
end Go.Lift
namespace Go.Lift
open Go.RowKit Go.ChangeShapes Go.WideShapes
section
variable {P : Program}
def XS (P : Program) (t : TypeId) (us : List T) : D := match P.underlying t with
 | some (.struct _) => .e (.agg (us.map .pure))
 | _ => .e (.one (.pure (us.headD .nil0)))
def Ki (P : Program) (d : Nat) : List TypeId → List D → Prop
 | [], [] => True
 | t :: ts, x :: xs => (∃ us, KW P d t us ∧ x = XS P t us) ∧ Ki P d ts xs
 | _, _ => False
theorem Yo {H : Type} {enc : TypeId × Value → H} {w : World} {d base : Nat} {t : TypeId} {v : Value} {x : DataW H} {ps : List MemPlace} (hp : JO P d t = true) (hval : Value.okWide P w .any base t v) (h : DataW.Trod enc P w 0 (fun _ => true) true t v x ps) :
  ∃ us, KW P d t us ∧ HE P w (G0 (Uh w)) v (XS P t us) := by
 obtain ⟨fuel, hf⟩ := h
 obtain ⟨us, h1, h2⟩ := Qs d fuel t _ _ hp hf
 refine ⟨us, h2, ?_⟩
 have single : ∀ (v : Value), v.cells.toList = [v] → IF w (Uh w) v.cells.toList us → HE P w (G0 (Uh w)) v (.e (.one (.pure (us.headD .nil0)))) := by
  intro v hv hr
  rw [hv] at hr
  match us, hr with
  | [u], hr => exact hr.1
 unfold XS
 cases d with
 | zero => cases hp
 | succ d =>
  unfold JO at hp
  split at hp
  ·rename_i k hu
   rw [hu]
   obtain ⟨n, rfl⟩ := okWide_int hu hval
   exact single _ rfl h1
  ·rename_i hu
   rw [hu]
   obtain ⟨n, rfl⟩ := okWide_bool hu hval
   exact single _ rfl h1
  ·rename_i hu
   rw [hu]
   obtain ⟨n, rfl⟩ := okWide_string hu hval
   exact single _ rfl h1
  ·rename_i e hu
   rw [hu]
   obtain ⟨a, len, cap, rfl⟩ := okWide_slice hu hval
   exact single _ rfl h1
  ·rename_i fs hu
   rw [hu]
   simp only [Value.okWide, hu] at hval
   obtain ⟨cs, rfl, _, _⟩ := hval
   have h1 : IF w (Uh w) cs.toList us := h1
   refine ⟨cs, rfl, by simpa using h1.len, fun j c hj => ?_⟩
   rw [vC] at hj
   cases hx : us[j]? with
   | none => rw [hx] at hj; cases hj
   | some u =>
    rw [hx] at hj; cases hj
    obtain ⟨v, h3, h4⟩ := h1.get j u hx
    have : Au cs j = v := by unfold Au; rw [show cs[j]? = some v from by simpa using h3]; rfl
    rw [this]; exact h4
  ·cases hp
theorem Ta {H : Type} {enc : TypeId × Value → H} {w : World} {d base : Nat} : ∀ {ts : List TypeId} {vs : List Value} {ds : List (DataW H)} {ps : List MemPlace}, (ts.all (JO P d)) = true → (∀ (j : Nat) t v, ts[j]? = some t → vs[j]? = some v → Value.okWide P w .any base t v) →
  DataW.TrodAll enc P w 0 (fun _ => true) true ts vs ds ps → ∃ Ds, Ki P d ts Ds ∧ vs.length = Ds.length ∧ ds.length = ts.length ∧ ∀ (j : Nat) (x : D), Ds[j]? = some x → ∃ v, vs[j]? = some v ∧ HE P w (G0 (Uh w)) v x
 | [], [], [], _, _, _, _ => ⟨[], trivial, rfl, rfl, fun j x h => by simp at h⟩
 | t :: ts, v :: vs, x :: xs, _, hp, hval, h => by
  obtain ⟨p, q, h1, h2, _⟩ := h
  simp only [zC7, uV] at hp
  obtain ⟨us, h3, h4⟩ := Yo hp.1 (hval 0 t v rfl rfl) h1
  obtain ⟨Ds, h5, h6, h7, h8⟩ := Ta hp.2 (fun j t v hj hv => hval (j + 1) t v (by simpa using hj) (by simpa using hv)) h2
  refine ⟨XS P t us :: Ds, ⟨⟨us, h3, rfl⟩, h5⟩, by simp [h6], by simp [h7], fun j y hj => ?_⟩
  cases j with
  | zero => simp at hj; subst hj; exact ⟨v, rfl, h4⟩
  | succ j =>
   obtain ⟨v', g1, g2⟩ := h8 j y (by simpa using hj)
   exact ⟨v', by simpa using g1, g2⟩
 | [], [], _ :: _, _, _, _, h => h.elim
 | [], _ :: _, _, _, _, _, h => by cases ‹List (DataW H)› <;> exact h.elim
 | _ :: _, [], _, _, _, _, h => by cases ‹List (DataW H)› <;> exact h.elim
 | _ :: _, _ :: _, [], _, _, _, h => h.elim
theorem Lm {H : Type} {enc : TypeId × Value → H} (hl : laidOutB P = true) {W W' : World} (hb : Below W.heap.size W W') : ∀ {ts : List TypeId} {vs : List Value} {ds : List (DataW H)} {ps : List MemPlace}, (ts.all fun t => P.readableRec t && decide (t < P.types.size)) = true →
  DataW.TrodAll enc P W 0 (fun _ => true) true ts vs ds ps → (∀ x ∈ ps, x.block < W.heap.size) → DataW.TrodAll enc P W' 0 (fun b => decide (b < W.heap.size)) true ts vs ds ps
 | [], [], [], _, _, h, _ => h
 | t :: ts, v :: vs, x :: xs, _, hr, h, hlt => by
  obtain ⟨p, q, h1, h2, rfl⟩ := h
  simp only [zC7, uV, decide_eq_true_eq] at hr
  refine ⟨p, q, Below.trod hl hr.1.1 hr.1.2 h1 hb (fun y hy => hlt y (by simp [hy])), Lm hl hb (by simpa using hr.2) h2 (fun y hy => hlt y (by simp [hy])), rfl⟩
 | [], [], _ :: _, _, _, h, _ => h.elim
 | [], _ :: _, _, _, _, h, _ => by cases ‹List (DataW H)› <;> exact h.elim
 | _ :: _, [], _, _, _, h, _ => by cases ‹List (DataW H)› <;> exact h.elim
 | _ :: _, _ :: _, [], _, _, h, _ => h.elim
def VW (P : Program) : Bool := Oy.all fun x => (P.globalNamed x.1).isNone
theorem VV (h : VW P = true) (w : World) (S : Nat → Prop) : WI P w S := fun x hx g hg => by
 have := uX.1 h x hx
 rw [hg] at this; cases this
theorem Sg {H : Type} {enc : TypeId × Value → H} {C : Checked} {os : Os} {f : FuncId} {fn : Func} {s : ChangeSpec} {conds : List PathCond} {tb : TypeId} {d : Nat}
  (own : ownKnob C.prog.godebug = none) (started : os.Started) (noInit : C.prog.inits.idxOf? f = none) (hfn : C.prog.funcs[f]? = some fn)
  (witness : ∃ (w : World) (tape : Tape) (i : Input), w.os = os ∧ (w.forCall tape i).Shaped C.prog ∧ i.vars = [] ∧ Input.okWide C.prog (w.forCall tape i) .any w.heap.size f i ∧
   s.pre6 enc C.prog fn conds false (w.forCall tape i).memory i.args ∧ ({} : Assume).holds C.prog (lone (Frame.enter C.prog f i.args .normal) [] (w.forCall tape i)))
  (hv : s.vars = []) (hs : ∀ ds : List (DataW H), ds.length = fn.params.toList.length → s.fn H (ds ++ []) = { results := [.lit (.bool true)], args := ds })
  (hres : fn.resultTypes = #[tb]) (htb : C.prog.underlying tb = some .bool) (hl : laidOutB C.prog = true)
  (hread : (fn.params.toList.all fun t => C.prog.readableRec t && decide (t < C.prog.types.size)) = true) (hplain : (fn.params.toList.all (JO C.prog d)) = true)
  (law : ∀ Ds, Ki C.prog d fn.params.toList Ds → Ar C.prog f Ds [] (.e (.one (.pure (.val (.bool true)))))) (hg0 : VW C.prog = true := by kernel_rfl) :
  ReturnsInHanded {} C os f .any (s.pre6 enc C.prog fn conds false) (s.post enc C.prog fn false true false false) := by
 refine returnsInHanded_of_change own started noInit hfn witness ?_
 intro W base args ds gs before hval hW _ _
 have hW' := hW
 obtain ⟨p, q, hA, hV, rfl, _, _⟩ := hW
 rw [hv] at hV
 obtain ⟨rfl, rfl⟩ := trodVars_none hV
 obtain ⟨Ds, h1, h2, h3, h4⟩ := Ta hplain (fun j t v hj hvj => hval j t v (by simpa using hj) (by simpa using hvj)) hA
 have hlt : ∀ x ∈ p, x.block < W.heap.size := fun x hx => hW'.lt x (by simp [hx])
 refine (law Ds h1 W (Uh W) args (fun β h => h) (VV hg0 W _) (by simpa using h2) ?_).mono ?_
 ·intro j x hj
  obtain ⟨v, g1, g2⟩ := h4 j x hj
  have : Au args j = v := by unfold Au; rw [show args[j]? = some v from by simpa using g1]; rfl
  rw [this]; exact g2
 ·rintro e W' ⟨v, G', rfl, hb, _, _, hr, _⟩
  have hvb : v = .bool true := by
   have h5 : D3 W' G'.S v (.val (.bool true)) := hr
   cases h5; rfl
  subst hvb
  refine ⟨_, rfl, ds, [], p ++ [], [], p, [], hW', ?_, ?_, ?_, hb.frame _, fun h => by cases h⟩
  ·rw [hs ds h3, hres]
   exact trodAll_mk1 (shut_bool htb true)
  ·rw [hs ds h3]
   exact Lm hl hb.toBelow hread hA hlt
  ·rw [hs ds h3, hv]
   rfl
end
end Go.Lift
namespace Go.Lift
open Go.RowKit
section
variable {P : Program}
def TC {α : Type} (P : Program) (t : TypeId) (e : α → List T) (W : α → Prop) : Prop := ∀ (d : Nat) (ts : List T), KW P d t ts → ∃ x, ts = e x ∧ W x
theorem TM {t : TypeId} {k : IntKind} {e : Int → List T} (h : NU P t k = true) (he : ∀ n, e n = [.val (.int k n)]) : TC P t e (fun n => (Lit.int k n).wf = true) := by
 intro d ts hf
 cases d with
 | zero => exact hf.elim
 | succ d =>
  unfold NU at h
  unfold KW at hf
  split at h
  ·rename_i k' hu
   rw [hu] at hf
   obtain ⟨n, rfl, hw⟩ := hf
   have : k' = k := by simpa using h
   subst this
   exact ⟨n, (he n).symm, hw⟩
  ·cases h
theorem Uv {t : TypeId} {e : Bool → List T} (h : PR P t = true) (he : ∀ n, e n = [.val (.bool n)]) : TC P t e (fun _ => True) := by
 intro d ts hf
 cases d with
 | zero => exact hf.elim
 | succ d =>
  unfold PR at h
  unfold KW at hf
  split at h
  ·rename_i hu
   rw [hu] at hf
   obtain ⟨n, rfl⟩ := hf
   exact ⟨n, (he n).symm, trivial⟩
  ·cases h
theorem NS {α : Type} {e : α → List T} {W : α → Prop} : ∀ (rows : List (List T)), (∀ row, row ∈ rows → ∃ x, row = e x ∧ W x) → ∃ xs : List α, rows = xs.map e ∧ ∀ x, x ∈ xs → W x
 | [], _ => ⟨[], rfl, fun x h => by cases h⟩
 | r :: rows, h => by
  obtain ⟨x, rfl, hx⟩ := h r (by simp)
  obtain ⟨xs, rfl, hxs⟩ := NS rows (fun row hr => h row (by simp [hr]))
  exact ⟨x :: xs, rfl, fun y hy => by
   rcases vI.1 hy with e | e
   ·subst e; exact hx
   ·exact hxs y e⟩
theorem P1 {α : Type} {t el : TypeId} {e : α → List T} {W : α → Prop} {e2 : List α → List T} (h : sliceB P t el = true) (he : TC P el e W) (h2 : ∀ xs, e2 xs = [.sl (xs.map e)]) : TC P t e2 (fun xs => ∀ x, x ∈ xs → W x) := by
 intro d ts hf
 cases d with
 | zero => exact hf.elim
 | succ d =>
  unfold sliceB at h
  unfold KW at hf
  split at h
  ·rename_i e' hu
   rw [hu] at hf
   obtain ⟨rows, rfl, hr⟩ := hf
   have : e' = el := by simpa using h
   subst this
   obtain ⟨xs, rfl, hxs⟩ := NS rows (fun row hm => he d row (hr row hm))
   exact ⟨xs, (h2 xs).symm, hxs⟩
  ·cases h
def Iq (P : Program) (t : TypeId) : Option (List TypeId) := match P.underlying t with | some (.struct fs) => some (fs.toList.map (·.type)) | _ => none
theorem Ke {t : TypeId} {tys : List TypeId} (h : Iq P t = some tys) {d : Nat} {ts : List T} (hf : KW P d t ts) : ∃ d', WY (KW P d') tys ts := by
 cases d with
 | zero => exact hf.elim
 | succ d =>
  unfold Iq at h
  unfold KW at hf
  split at h
  ·rename_i fs hu
   cases h
   rw [hu] at hf
   exact ⟨d, hf⟩
  ·cases h
theorem Oe {t : TypeId} {tys : List TypeId} (h : Iq P t = some tys) (us : List T) : XS P t us = .e (.agg (us.map .pure)) := by
 unfold Iq at h
 unfold XS
 revert h
 cases P.underlying t with
 | none => intro h; cases h
 | some k => cases k <;> intro h <;> first | rfl | cases h
theorem Mo {d : Nat} {t : TypeId} {ts : List TypeId} {Ds : List D} (h : Ki P d (t :: ts) Ds) : ∃ us xs, Ds = XS P t us :: xs ∧ KW P d t us ∧ Ki P d ts xs := by
 cases Ds with
 | nil => exact h.elim
 | cons x xs => obtain ⟨⟨us, h1, rfl⟩, h2⟩ := h; exact ⟨us, xs, rfl, h1, h2⟩
theorem Q4 {d : Nat} {Ds : List D} (h : Ki P d [] Ds) : Ds = [] := by
 cases Ds with
 | nil => rfl
 | cons x xs => exact h.elim
end
end Go.Lift
namespace Go.Lift
open List renaming mem_of_getElem? → lM
open List renaming getD_eq_getElem?_getD → lD
open Go.RowKit
variable {P : Program} {X : Io} {ops : Array Oper}
instance : Inhabited BP := ⟨.gone⟩
def I2 (n m b : Nat) : Bool := if BZ b then Nat.blt (b - 90000) n else Nat.blt b m
def Tn (G : Gh) (n : Nat) (β : Nat) : Prop := ∃ k, k < n ∧ G.has (90000 + k) β
theorem IZ {k : Nat} (h : k < 1000) : BZ (90000 + k) = true := by
 unfold BZ
 rw [zF1 (by omega), zF1 (by omega)]; rfl
theorem Uc {k : Nat} (h : k < 900) : Nc (90000 + k) = true := by
 unfold Nc
 rw [uV]
 exact ⟨zF1 (by omega), zF1 (by omega)⟩
theorem Kh {b : Nat} (h : BZ b = true) : ∃ k, k < 1000 ∧ b = 90000 + k := by
 unfold BZ at h
 rw [uV] at h
 have h1 := vY h.1
 have h2 := vY h.2
 exact ⟨b - 90000, by omega, by omega⟩
def DS (P : Program) (f : FuncId) (args : List D) (lent : List (BP × BP)) (rv : List BP) (res : D) : Prop :=
 ∀ (w : World) (G : Gh) (vs : Array Value), (∀ β, G.S β → β < w.heap.size) → WI P w G.S →
  (∀ (k : Nat) (x : BP × BP), lent[k]? = some x → Fg P w G (90000 + k) x.1) →
  (∀ k β, k < lent.length → G.has (90000 + k) β → β < w.heap.size ∧ ¬ G.S β) →
  (∀ k l β, k < lent.length → l < lent.length → G.has (90000 + k) β → G.has (90000 + l) β → k = l) →
  vs.size = args.length → (∀ (j : Nat) (d : D), args[j]? = some d → HE P w G (Au vs j) d) →
  Calls P f vs w fun e w' => ∃ v G', e = .returned v ∧ C9 (Tn G lent.length) w.heap.size w w' ∧ (∀ β, G.S β → G'.S β) ∧ (∀ β, G'.S β → G.S β ∨ (w.heap.size ≤ β ∧ β < w'.heap.size)) ∧ HE P w' G' v res ∧
   (∀ (k : Nat) (x : BP × BP), lent[k]? = some x → Fg P w' G' (90000 + k) x.2) ∧
   (∀ (k : Nat) (x : BP), rv[k]? = some x → Fg P w' G' k x) ∧
   (∀ k, k < lent.length → G'.loc (90000 + k) = G.loc (90000 + k) ∧ G'.hd (90000 + k) = G.hd (90000 + k) ∧ G'.more (90000 + k) = G.more (90000 + k)) ∧
   (∀ k β, k < lent.length → G'.has (90000 + k) β → ¬ G'.S β) ∧
   (∀ k β, k < rv.length → G'.has k β → w.heap.size ≤ β ∧ β < w'.heap.size ∧ ¬ G'.S β) ∧
   (∀ k l β, k < rv.length → l < rv.length → G'.has k β → G'.has l β → k = l)
def Pr (args : List D) (lent : List (BP × BP)) : St := ⟨fun s => args[s]?, fun b => if BZ b then (lent[b - 90000]?).map (·.1) else none⟩
def Qv (bx : Nat → Option BP) (f : Nat → Nat) : Nat → List (BP × BP) → Prop
 | _, [] => True
 | k, x :: xs => bx (90000 + k) = some (x.2.ren f) ∧ Qv bx f (k + 1) xs
def SH (bx : Nat → Option BP) (f : Nat → Nat) : Nat → List BP → Prop
 | _, [] => True
 | k, x :: xs => bx (1000 + k) = some (x.ren f) ∧ SH bx f (k + 1) xs
theorem Nw {bx : Nat → Option BP} {f : Nat → Nat} : ∀ {l : List (BP × BP)} {m : Nat}, Qv bx f m l → ∀ (k : Nat) (x : BP × BP), l[k]? = some x → bx (90000 + (m + k)) = some (x.2.ren f)
 | y :: rv, m, h, 0, x, hk => by simp at hk; subst hk; exact h.1
 | y :: rv, m, h, k + 1, x, hk => by
  have := Nw h.2 k x (by simpa using hk)
  rwa [show m + 1 + k = m + (k + 1) from by omega] at this
theorem Om {bx : Nat → Option BP} {f : Nat → Nat} : ∀ {l : List BP} {m : Nat}, SH bx f m l → ∀ (k : Nat) (x : BP), l[k]? = some x → bx (1000 + (m + k)) = some (x.ren f)
 | y :: rv, m, h, 0, x, hk => by simp at hk; subst hk; exact h.1
 | y :: rv, m, h, k + 1, x, hk => by
  have := Om h.2 k x (by simpa using hk)
  rwa [show m + 1 + k = m + (k + 1) from by omega] at this
def Lg (b : Nat) : Nat := if BZ b then b else 1000 + b
structure UC (P : Program) (rs : List ResultVar) (st : St) (lent : List (BP × BP)) (rv : List BP) (res : D) : Prop where
 r : ∃ xs, YY P st rs xs ∧ YX xs = res.ren Lg
 l : Qv st.bx Lg 0 lent
 v : SH st.bx Lg 0 rv
def Ii (n m : Nat) (l : List Nat) : Bool := l.all (I2 n m)
theorem FZ {f n : Nat} {fn : Func} {c : Code} {args : List D} {lent : List (BP × BP)} {rv : List BP} {res : D} {rs : List ResultVar} (hf : P.funcs[f]? = some fn) (hb : fn.body = some c) (hn : fn.ntmps = n) (hrs : fn.results.toList = rs) (hl : args.length ≤ n) (hn9 : n ≤ 90000)
  (hargs : (args.all fun d => Ii lent.length 0 d.names) = true) (hpre : (lent.all fun x => Ii lent.length 0 x.1.names && x.1.real && x.2.real) = true) (hll : lent.length ≤ 900) (hrl : (rv.all fun x => x.real) = true) (hrn : rv.length ≤ 1000)
  (h : ∀ (w0 : World) (S0 : Nat → Prop) (GL : Gh), W P ⟨w0, S0, n, GL⟩ c (fun e st => match e with | .normal | .ret => UC P rs st lent rv res | _ => False) (Pr args lent)) : DS P f args lent rv res := by
 subst hn; subst hrs
 intro w G vs hS hgk hlb hla hli hlen hrd
 refine calls_of_wp hf hb ?_
 have hcell : ∀ j, j < args.length → Au (vs ++ zG3 (fn.ntmps - vs.size) undef) j = Au vs j := fun j hj => Bi (by omega)
 -- the ghost that knows of what is lent alone
 let dom : Nat → Prop := fun b => BZ b = true ∧ b - 90000 < lent.length
 have hdec : ∀ b, Decidable (dom b) := fun b => inferInstanceAs (Decidable (_ ∧ _))
 let GL : Gh := { S := G.S, loc := fun b => if dom b then G.loc b else none, hd := fun b => if dom b then G.hd b else undef, more := fun b => if dom b then G.more b else fun _ => False }
 have hext : G.ext GL dom := ⟨fun _ h => h, fun b hb => if_pos hb, fun b hb => if_pos hb, fun b hb => if_pos hb⟩
 have hdomk : ∀ k, k < lent.length → dom (90000 + k) := fun k hk => ⟨IZ (by omega), by omega⟩
 have hin : ∀ b, I2 lent.length 0 b = true → dom b := by
  intro b hb
  unfold I2 at hb
  split at hb
  ·rename_i hl; exact ⟨hl, by rwa [zD7] at hb⟩
  ·simp [Nat.blt] at hb
 have hhas : ∀ b β, GL.has b β → dom b ∧ G.has b β := by
  intro b β hb
  by_cases hd : dom b
  ·exact ⟨hd, (hext.has hd).1 hb⟩
  ·exfalso
   unfold Gh.has at hb
   simp only [GL] at hb
   rw [if_neg hd, if_neg hd] at hb
   rcases hb with h | h
   ·cases h
   ·exact h
 have hlent : ∀ β, GL.lent β ↔ Tn G lent.length β := by
  intro β
  constructor
  ·rintro ⟨b, hb, hb2⟩
   obtain ⟨hd, hg⟩ := hhas b β hb2
   obtain ⟨k, _, rfl⟩ := Kh hb
   exact ⟨k, by have := hd.2; omega, hg⟩
  ·rintro ⟨k, hk, hg⟩
   exact ⟨90000 + k, IZ (by omega), (hext.has (hdomk k hk)).2 hg⟩
 have hbx : ∀ b k, (Pr args lent).bx b = some k → dom b ∧ ∃ x, lent[b - 90000]? = some x ∧ x.1 = k := by
  intro b k hk
  simp only [Pr] at hk
  split at hk
  ·rename_i hb
   cases hx : lent[b - 90000]? with
   | none => rw [hx] at hk; cases hk
   | some x => rw [hx] at hk; cases hk; exact ⟨⟨hb, AK hx⟩, x, rfl, rfl⟩
  ·cases hk
 have hdn : ∀ b, dom b → ((Pr args lent).bx b).isSome = true := by
  intro b hb
  simp only [Pr]
  rw [if_pos hb.1]
  simp [hb.2]
 have hpre' : ∀ x, x ∈ lent → Ii lent.length 0 x.1.names = true ∧ x.1.real = true ∧ x.2.real = true := fun x hx => by
  have := uX.1 hpre x hx
  rw [uV, uV] at this
  exact ⟨this.1.1, this.1.2, this.2⟩
 have hbk : ∀ b, dom b → b = 90000 + (b - 90000) := fun b hb => by obtain ⟨k, _, e⟩ := Kh hb.1; omega
 have hinit : DP P ⟨w, G.S, fn.ntmps, GL⟩ GL (Pr args lent) { tmps := vs ++ zG3 (fn.ntmps - vs.size) undef, defers := [] } w := by
  refine { S_lt := hS, S_src := fun β h => .inl h, S_0 := fun β h => h, S0_lt := hS, tsz := by simp; omega, defers := rfl, below := C9.refl _ _ _, gok := hgk, nlt := hn9, lent := fun _ _ => ⟨rfl, rfl, rfl⟩, blk := ?_, at_ok := ?_, at_inj := ?_, env := ?_, live := ?_, liveB := ?_ }
  ·intro b k hk
   obtain ⟨hd, x, hx, rfl⟩ := hbx b k hk
   have h1 := hlb _ x hx
   rw [← hbk b hd] at h1
   exact h1.mono hext hd (fun _ _ => rfl) (fun _ _ _ => rfl) fun c hc => hin c (uX.1 (hpre' x (lM hx)).1 c hc)
  ·intro b k β hk hr hβ
   obtain ⟨hd, hg⟩ := hhas b β hβ
   rw [hbk b hd] at hg
   have := hla _ β hd.2 hg
   exact ⟨⟨fun h3 => (by rw [hd.1] at h3; cases h3), .inr ⟨b, hd.1, hβ⟩⟩, this.1, this.2⟩
  ·intro b c k l β hk hl hr hr' hβ hβ'
   obtain ⟨hd, hg⟩ := hhas b β hβ
   obtain ⟨hd', hg'⟩ := hhas c β hβ'
   rw [hbk b hd] at hg
   rw [hbk c hd'] at hg'
   have := hli _ _ β hd.2 hd'.2 hg hg'
   rw [hbk b hd, hbk c hd', this]
  ·intro s d hs
   have hs' : args[s]? = some d := hs
   rw [hcell s (AK hs')]
   exact (hrd s d hs').mono hext (fun _ _ => rfl) fun b hb => hin b (uX.1 (uX.1 hargs d (lM hs')) b hb)
  ·intro s d hs b hb
   have hs' : args[s]? = some d := hs
   exact hdn b (hin b (uX.1 (uX.1 hargs d (lM hs')) b hb))
  ·intro b k hk c hc
   obtain ⟨hd, x, hx, rfl⟩ := hbx b k hk
   exact hdn c (hin c (uX.1 (hpre' x (lM hx)).1 c hc))
 refine wp_mono (h w G.S GL _ w ⟨_, hinit⟩) ?_
 rintro e a' w' ⟨st', hq, G2, hs⟩
 have key : UC P fn.results.toList st' lent rv res → a'.defers = [] ∧ ∃ v, (results fn a'.tmps).run P w' = .ok v w' ∧ ∃ v' G', Ending.returned v = .returned v' ∧ C9 (Tn G lent.length) w.heap.size w w' ∧ (∀ β, G.S β → G'.S β) ∧ (∀ β, G'.S β → G.S β ∨ (w.heap.size ≤ β ∧ β < w'.heap.size)) ∧ HE P w' G' v' res ∧
   (∀ (k : Nat) (x : BP × BP), lent[k]? = some x → Fg P w' G' (90000 + k) x.2) ∧
   (∀ (k : Nat) (x : BP), rv[k]? = some x → Fg P w' G' k x) ∧
   (∀ k, k < lent.length → G'.loc (90000 + k) = G.loc (90000 + k) ∧ G'.hd (90000 + k) = G.hd (90000 + k) ∧ G'.more (90000 + k) = G.more (90000 + k)) ∧
   (∀ k β, k < lent.length → G'.has (90000 + k) β → ¬ G'.S β) ∧
   (∀ k β, k < rv.length → G'.has k β → w.heap.size ≤ β ∧ β < w'.heap.size ∧ ¬ G'.S β) ∧
   (∀ k l β, k < rv.length → l < rv.length → G'.has k β → G'.has l β → k = l) := by
  rintro ⟨⟨xs, hr1, hr2⟩, hlp, hv⟩
  obtain ⟨us, h1, h2, h3⟩ := hs.rrs hr1
  have hoL : ∀ k, k < lent.length → Lg (90000 + k) = 90000 + k := fun k hk => by unfold Lg; rw [IZ (by omega)]; rfl
  have hoN : ∀ k, k < rv.length → Lg k = 1000 + k := fun k hk => by unfold Lg; rw [J6 (show k < 1000 by omega) (by omega)]; rfl
  have hbl : ∀ (k : Nat) (x : BP × BP), lent[k]? = some x → st'.bx (90000 + k) = some (x.2.ren Lg) := fun k x hk => by
   have := Nw hlp k x hk
   rwa [uT] at this
  have hbv : ∀ (k : Nat) (x : BP), rv[k]? = some x → st'.bx (1000 + k) = some (x.ren Lg) := fun k x hk => by
   have := Om hv k x hk
   rwa [uT] at this
  have hreal : ∀ (k : Nat) (x : BP), rv[k]? = some x → (x.ren Lg).real = true := fun k x hk => by
   rw [JU]; exact uX.1 hrl x (lM hk)
  have hgl : ∀ k, k < lent.length → G2.loc (90000 + k) = G.loc (90000 + k) ∧ G2.hd (90000 + k) = G.hd (90000 + k) ∧ G2.more (90000 + k) = G.more (90000 + k) := fun k hk => by
   obtain ⟨e1, e2, e3⟩ := hs.lent (90000 + k) (Uc (by omega))
   exact ⟨e1.trans (hext.loc _ (hdomk k hk)), e2.trans (hext.hd _ (hdomk k hk)), e3.trans (hext.more _ (hdomk k hk))⟩
  refine ⟨hs.defers, (if h : us.toArray.size = 1 then us.toArray[0] else .tuple us.toArray), ?_, _, { S := G2.S, loc := fun b => G2.loc (Lg b), hd := fun b => G2.hd (Lg b), more := fun b => G2.more (Lg b) }, rfl, ?_, hs.S_0, ?_, ?_, ?_, ?_, ?_, ?_, ?_, ?_⟩
  ·unfold results
   refine Ai (a := us.toArray) (w1 := w') ?_ rfl
   rw [Array.mapM_eq_mapM_toList]
   simp only [Sem.run_map]
   exact congrArg (fun r => Result.andThen r fun a w' => Result.ok a.toArray w') h1
  ·have hb := hs.below
   exact ⟨hb.os, hb.tape, hb.output, hb.size, hb.drawn, fun k hk hl => hb.block k hk fun h => hl ((hlent k).1 h)⟩
  ·intro β hβ
   rcases hs.S_src β hβ with h | h
   ·exact .inl h
   ·exact .inr ⟨h, hs.S_lt β hβ⟩
  ·refine Jd (f := Lg) ?_
   rw [← hr2]
   match xs, us, h2 with
   | [], [], _ => exact ⟨#[], rfl, rfl, fun j x h => by simp at h⟩
   | [x], [u], _ => exact h3 0 u x rfl rfl
   | x :: y :: xs, u :: u' :: us, hl2 =>
    refine ⟨(u :: u' :: us).toArray, by simp, by simpa using hl2, fun j z hj => ?_⟩
    have hlt := AK hj
    have hu : (u :: u' :: us)[j]? = some ((u :: u' :: us)[j]'(by rw [hl2]; exact hlt)) := by rw [vP]
    have := h3 j _ z hu hj
    have hc : Au (u :: u' :: us).toArray j = (u :: u' :: us)[j]'(by rw [hl2]; exact hlt) := by
     unfold Au
     rw [List.getElem?_toArray, hu]; rfl
    rw [hc]; exact this
  ·intro k x hk
   refine I9 (f := Lg) ?_
   rw [hoL k (AK hk)]
   exact hs.blk _ _ (hbl k x hk)
  ·intro k x hk
   refine I9 (f := Lg) ?_
   rw [hoN k (AK hk)]
   exact hs.blk _ _ (hbv k x hk)
  ·intro k hk
   simp only [hoL k hk]
   exact hgl k hk
  ·intro k β hk hβ
   have hx : lent[k]? = some lent[k] := by simp [hk]
   have hβ : G2.has (90000 + k) β := by
    unfold Gh.has at hβ ⊢
    simp only [hoL k hk] at hβ
    exact hβ
   exact (hs.at_ok _ _ β (hbl k _ hx) (by rw [JU]; exact (hpre' _ (lM hx)).2.2) hβ).2.2
  ·intro k β hk hβ
   have hx : rv[k]? = some rv[k] := by simp [hk]
   have hβ : G2.has (1000 + k) β := by
    unfold Gh.has at hβ ⊢
    simp only [hoN k hk] at hβ
    exact hβ
   have := hs.at_ok _ _ β (hbv k _ hx) (hreal k _ hx) hβ
   exact ⟨this.1.1 (J6 (show 1000 + k < 3000 by omega) (by omega)), this.2⟩
  ·intro k l β hk hl hβ hβ'
   have hx : rv[k]? = some rv[k] := by simp [hk]
   have hx' : rv[l]? = some rv[l] := by simp [hl]
   have hβ : G2.has (1000 + k) β := by
    unfold Gh.has at hβ ⊢
    simp only [hoN k hk] at hβ
    exact hβ
   have hβ' : G2.has (1000 + l) β := by
    unfold Gh.has at hβ' ⊢
    simp only [hoN l hl] at hβ'
    exact hβ'
   have := hs.at_inj _ _ _ _ β (hbv k _ hx) (hbv l _ hx') (hreal k _ hx) (hreal l _ hx') hβ hβ'
   omega
 cases e with
 | normal => exact key hq
 | ret => exact key hq
 | _ => exact hq.elim
def nu (ls ns : List Nat) (b : Nat) : Nat := if BZ b then ls.getD (b - 90000) 0 else ns.getD b 0
def Of (f : Nat → Nat) : List Nat → List (BP × BP) → List (Nat × BP)
 | l :: ls, x :: xs => (l, x.1.ren f) :: Of f ls xs
 | _, _ => []
def Jj (f : Nat → Nat) : List Nat → List (BP × BP) → List Bool → List (Nat × BP) → List (Nat × BP)
 | l :: ls, x :: xs, c :: cs, r => if c then (l, x.2.ren f) :: Jj f ls xs cs r else Jj f ls xs cs r
 | _, _, _, r => r
def newB (f : Nat → Nat) : List Nat → List BP → List (Nat × BP)
 | n :: ns, x :: xs => (n, x.ren f) :: newB f ns xs
 | _, _ => []
def TH : List (BP × BP) → List Bool → Prop
 | x :: xs, c :: cs => (c = false → x.1 = x.2) ∧ TH xs cs
 | [], [] => True
 | _, _ => False
theorem PB {f : Nat → Nat} {bx : Nat → Option BP} : ∀ {ls : List Nat} {lent : List (BP × BP)}, ls.length = lent.length → HK bx (Of f ls lent) → ∀ (k : Nat) (x : BP × BP), lent[k]? = some x → bx (nm ls k) = some (x.1.ren f)
 | [], [], _, _, k, y, hk => by simp at hk
 | l :: ls, x :: xs, hl, h, 0, y, hk => by simp at hk; subst hk; exact h.1
 | l :: ls, x :: xs, hl, h, k + 1, y, hk => by
  have := PB (ls := ls) (lent := xs) (by simpa using hl) h.2 k y (by simpa using hk)
  simpa [nm] using this
theorem Pk {f : Nat → Nat} {bx : Nat → Option BP} {r : List (Nat × BP)} : ∀ {ls : List Nat} {lent : List (BP × BP)} {ch : List Bool}, ls.length = lent.length → ls.Nodup → TH lent ch → (∀ c, c ∈ ls → Be bx r c = bx c) → HK bx (Of f ls lent) →
  (∀ c, c ∉ ls → Be bx (Jj f ls lent ch r) c = Be bx r c) ∧ ∀ (k : Nat) (x : BP × BP), lent[k]? = some x → Be bx (Jj f ls lent ch r) (nm ls k) = some (x.2.ren f)
 | [], [], [], _, _, _, _, _ => ⟨fun _ _ => rfl, fun k x h => by simp at h⟩
 | [], [], _ :: _, _, _, h, _, _ => h.elim
 | l :: ls, x :: xs, [], hl, hnd, hc, hr, hp => by cases hc
 | l :: ls, x :: xs, c :: cs, hl, hnd, hc, hr, hp => by
  have ih := Pk (f := f) (bx := bx) (r := r) (ls := ls) (lent := xs) (ch := cs) (by simpa using hl) (zD0.1 hnd).2 hc.2 (fun c hc => hr c (by simp [hc])) hp.2
  have hln : l ∉ ls := (zD0.1 hnd).1
  have hl0 : Be bx (Jj f ls xs cs r) l = bx l := (ih.1 l hln).trans (hr l (by simp))
  refine ⟨fun d hd => ?_, fun k y hk => ?_⟩
  ·simp only [vI, not_or] at hd
   simp only [Jj]
   split
   ·simp only [Be]; rw [if_neg hd.1]; exact ih.1 d hd.2
   ·exact ih.1 d hd.2
  ·cases k with
   | zero =>
    simp at hk; subst hk
    simp only [Jj, nm, zH2]
    split
    ·simp [Be]
    ·rename_i hcc
     have hcf : c = false := by simpa using hcc
     rw [hl0, hp.1, hc.1 hcf]
   | succ k =>
    have hk' : xs[k]? = some y := by simpa using hk
    have hlt := AK hk'
    have hlt2 : k < ls.length := by simp at hl; omega
    have e : nm (l :: ls) (k + 1) = nm ls k := by simp [nm]
    rw [e]
    have hne : nm ls k ≠ l := fun h => hln (h ▸ Fq hlt2)
    simp only [Jj]
    split
    ·simp only [Be]; rw [if_neg hne]; exact ih.2 k y hk'
    ·exact ih.2 k y hk'
theorem Mw {f : Nat → Nat} {bx : Nat → Option BP} : ∀ {ns : List Nat} {rv : List BP} {c : Nat}, ns.length = rv.length → ns.Nodup →
  (c ∉ ns → Be bx (newB f ns rv) c = bx c) ∧ ∀ (k : Nat) (x : BP), rv[k]? = some x → Be bx (newB f ns rv) (nm ns k) = some (x.ren f)
 | [], [], c, _, _ => ⟨fun _ => rfl, fun k x h => by simp at h⟩
 | n :: ns, x :: xs, c, hl, hnd => by
  have ih := Mw (f := f) (bx := bx) (ns := ns) (rv := xs) (c := c) (by simpa using hl) (zD0.1 hnd).2
  refine ⟨fun hc => ?_, fun k y hk => ?_⟩
  ·simp only [vI, not_or] at hc
   simp only [newB, Be]
   rw [if_neg hc.1]; exact ih.1 hc.2
  ·cases k with
   | zero => simp at hk; subst hk; simp [newB, Be, nm]
   | succ k =>
    have hk' : xs[k]? = some y := by simpa using hk
    have hlt := AK hk'
    have hlt2 : k < ns.length := by simp at hl; omega
    have : nm (n :: ns) (k + 1) = nm ns k := by simp [nm]
    rw [this]
    have hne : nm ns k ≠ n := fun e => (zD0.1 hnd).1 (e ▸ Fq hlt2)
    simp only [newB, Be]
    rw [if_neg hne]
    exact (Mw (f := f) (bx := bx) (ns := ns) (rv := xs) (c := c) (by simpa using hl) (zD0.1 hnd).2).2 k y hk'
theorem HS {ls ns : List Nat} {k : Nat} (h : k < 1000) : nu ls ns (90000 + k) = nm ls k := by
 unfold nu nm; rw [IZ h, if_pos rfl, show 90000 + k - 90000 = k from by omega]
theorem M8 {ls ns : List Nat} {k : Nat} (h : k < 90000) : nu ls ns k = nm ns k := by
 unfold nu nm; rw [J6 h (vN _), if_neg (by simp)]
theorem Ly {bx : Nat → Option BP} {c : Nat} : ∀ {wb : List (Nat × BP)}, (bx c).isSome = true → (Be bx wb c).isSome = true
 | [], h => h
 | p :: ps, h => by
  simp only [Be]; split
  ·rfl
  ·exact Ly h
section run
variable {dr : Bool} {Q : St → Prop} {r i : Nat} {st : St} {log : List (Nat × CV)} {o : Oper} {gs : List (Operand × D)}
theorem UM {f s : Nat} {xs : List Operand} {ds0 ds : List D} {lent : List (BP × BP)} {rv : List BP} {res : D} {ts : Array TypeId} (ls ns : List Nat) (ch : List Bool) (hc : DS P f ds lent rv res) (hat : At st.env ops i X.n (.call ⟨.value (.func f), xs.toArray, ts⟩) s gs)
  (hf : AF P f = true) (hl : xs.length = ds0.length) (hds : ds0.map D.nrm = ds.map (D.ren (nu ls ns)))
  (hll : ls.length = lent.length) (hln : ls.Nodup) (hns : ns.length = rv.length) (hndl : KV ns) (hch : TH lent ch)
  (hlim : (zD5 lent.length 1000 && zD5 rv.length 1000) = true) (hre : (lent.all fun x => x.1.real && x.2.real) = true)
  (hnm : (Ii lent.length rv.length res.names && (lent.all fun x => Ii lent.length rv.length x.2.names) && rv.all fun x => Ii lent.length rv.length x.names) = true) : LR P X ops i ⟨gs ++ HJ xs ds0, Of (nu ls ns) ls lent, some s, some (res.ren (nu ls ns)), Jj (nu ls ns) ls lent ch (newB (nu ls ns) ns rv), ns⟩ := by
 obtain ⟨o, ho, hop, hd, hn, hg, hgp⟩ := hat.out
 have hnd := hndl.1
 rw [uV] at hlim
 have hlim1 := vY hlim.1
 have hlim2 := vY hlim.2
 rw [uV, uV] at hnm
 obtain ⟨⟨hnmR, hnmL⟩, hnmV⟩ := hnm
 have hre' : ∀ x, x ∈ lent → x.1.real = true ∧ x.2.real = true := fun x hx => by
  have := uX.1 hre x hx
  rw [uV] at this
  exact this
 intro st a w K Q' hs hpre hK
 obtain ⟨G, hs⟩ := hs
 have hx := (Am.1 hpre.r).2
 have hw := hs.wanted hg (Am.1 hpre.r).1
 have hnew := hpre.n
 have hlb := hpre.b
 have hnew' : ∀ c, c ∈ ns → st.bx c = none := by
  have : ∀ {l : List Nat}, LT st.bx l → ∀ c, c ∈ l → st.bx c = none := by
   intro l
   induction l with
   | nil => intro _ c hc; cases hc
   | cons b l ih =>
    intro h c hc
    rcases vI.1 hc with e | e
    ·subst e; exact h.1
    ·exact ih h.2 c e
  exact this hnew
 have hget := fun k x hk => PB (f := nu ls ns) hll hlb k x hk
 have hlk : ∀ k, k < lent.length → st.bx (nm ls k) = some (lent[k]!.1.ren (nu ls ns)) ∧ (lent[k]!.1.ren (nu ls ns)).real = true := fun k hk => by
  have hx0 : lent[k]? = some lent[k]! := by simp [hk]
  exact ⟨hget k _ hx0, by rw [JU]; exact (hre' _ (lM hx0)).1⟩
 have hlsns : ∀ c, c ∈ ls → c ∉ ns := fun c hc hm => by
  obtain ⟨k, hk, e⟩ := LM hc
  have := (hlk k (by omega)).1
  rw [e, hnew' c hm] at this; cases this
 unfold wpOp
 rw [ho]
 simp only [hw, if_true]
 refine .inl ?_
 unfold Oper.wp
 have hrun : (execOp a.eval o).run P w = .ok (.enter f (xs.toArray.map a.eval)) w := by
  simp only [execOp, hop]
  exact I8 hf rfl
 rw [hrun]
 show Calls P f (xs.toArray.map a.eval) w _
 let Gc : Gh := { S := G.S, loc := fun b => G.loc (nu ls ns b), hd := fun b => G.hd (nu ls ns b), more := fun b => G.more (nu ls ns b) }
 have hGc : ∀ k β, k < lent.length → (Gc.has (90000 + k) β ↔ G.has (nm ls k) β) := fun k β hk => by
  unfold Gh.has; simp only [Gc]; rw [HS (by omega)]
 refine (hc w Gc (xs.toArray.map a.eval) hs.S_lt hs.gok ?_ ?_ ?_ ?_ ?_).mono ?_
 ·intro k x hk
  refine I9 (f := nu ls ns) ?_
  rw [HS (by have := AK hk; omega)]
  exact hs.blk _ _ (hget k x hk)
 ·intro k β hk hβ
  have h1 := hlk k hk
  exact (hs.at_ok _ _ β h1.1 h1.2 ((hGc k β hk).1 hβ)).2
 ·intro k l β hk hl' hβ hβ'
  have h1 := hlk k hk
  have h2 := hlk l hl'
  have := hs.at_inj _ _ _ _ β h1.1 h2.1 h1.2 h2.2 ((hGc k β hk).1 hβ) ((hGc l β hl').1 hβ')
  exact OT hln (by omega) (by omega) this
 ·have h1 := congrArg zD6 hds
  simp at h1
  simp; omega
 ·intro j d hj
  have hj2 : (ds.map (D.ren (nu ls ns)))[j]? = some (d.ren (nu ls ns)) := by rw [vC, hj]; rfl
  rw [← hds, vC] at hj2
  obtain ⟨d0, hj0, hd0⟩ : ∃ d0, ds0[j]? = some d0 ∧ d0.nrm = d.ren (nu ls ns) := by
   cases hx0 : ds0[j]? with
   | none => rw [hx0] at hj2; cases hj2
   | some d0 => rw [hx0] at hj2; exact ⟨d0, rfl, by simpa using hj2⟩
  have hlt := AK hj0
  have hxj : xs[j]? = some (xs[j]'(by omega)) := by simp [show j < xs.length from by omega]
  have hop' := Jb hl hx j _ d0 hxj hj0
  have hcell : Au (xs.toArray.map a.eval) j = a.eval (xs[j]'(by omega)) := by simp [Au, show j < xs.length from by omega]
  rw [hcell]
  refine Jd (f := nu ls ns) ?_
  rw [← hd0]
  exact (hs.opd hop').nrm
 ·rintro e w' ⟨v, G', rfl, hbel, hS1, hS2, hres', hpost, hvec, hsame, hlS, hvat, hvinj⟩
  show K (a.put o.dst v) w'
  rw [hd]
  let G2 : Gh := { S := G'.S, loc := fun c => if c ∈ ns then G'.loc (ns.idxOf c) else G.loc c, hd := fun c => if c ∈ ns then G'.hd (ns.idxOf c) else G.hd c, more := fun c => if c ∈ ns then G'.more (ns.idxOf c) else G.more c }
  have hidx : ∀ k, k < ns.length → ns.idxOf (nm ns k) = k := by
   intro k hk
   have hm := Fq hk
   have h1 : ns.idxOf (nm ns k) < ns.length := zF4 hm
   refine OT hnd h1 hk ?_
   have h2 := zH4 h1
   show ns.getD (ns.idxOf (nm ns k)) 0 = nm ns k
   rw [lD, vP h1, vW, h2]
  have hvia : G'.via G2 (nu ls ns) (fun b => I2 lent.length rv.length b = true) := by
   have key : ∀ b, I2 lent.length rv.length b = true → (∃ k, k < lent.length ∧ b = 90000 + k) ∨ (b < rv.length ∧ BZ b = false) := by
    intro b hb
    unfold I2 at hb
    split at hb
    ·rename_i h
     obtain ⟨k, _, rfl⟩ := Kh h
     rw [zD7] at hb
     exact .inl ⟨k, by omega, rfl⟩
    ·rename_i h
     rw [zD7] at hb
     exact .inr ⟨hb, by simpa using h⟩
   refine ⟨fun β h => h, fun b hb => ?_, fun b hb => ?_, fun b hb => ?_⟩
   ·rcases key b hb with ⟨k, hk, rfl⟩ | ⟨hb1, hb2⟩
    ·rw [HS (by omega)]
     have hni : nm ls k ∉ ns := hlsns _ (Fq (by omega))
     simp only [G2]; rw [if_neg hni, (hsame k hk).1]; simp only [Gc]; rw [HS (by omega)]
    ·rw [M8 (by omega)]
     simp only [G2]; rw [if_pos (Fq (by omega)), hidx b (by omega)]
   ·rcases key b hb with ⟨k, hk, rfl⟩ | ⟨hb1, hb2⟩
    ·rw [HS (by omega)]
     have hni : nm ls k ∉ ns := hlsns _ (Fq (by omega))
     simp only [G2]; rw [if_neg hni, (hsame k hk).2.1]; simp only [Gc]; rw [HS (by omega)]
    ·rw [M8 (by omega)]
     simp only [G2]; rw [if_pos (Fq (by omega)), hidx b (by omega)]
   ·rcases key b hb with ⟨k, hk, rfl⟩ | ⟨hb1, hb2⟩
    ·rw [HS (by omega)]
     have hni : nm ls k ∉ ns := hlsns _ (Fq (by omega))
     simp only [G2]; rw [if_neg hni, (hsame k hk).2.2]; simp only [Gc]; rw [HS (by omega)]
    ·rw [M8 (by omega)]
     simp only [G2]; rw [if_pos (Fq (by omega)), hidx b (by omega)]
  have hext : G.ext G2 (fun b => (st.bx b).isSome = true) := by
   have : ∀ b, (st.bx b).isSome = true → b ∉ ns := fun b hb hm => by rw [hnew' b hm] at hb; cases hb
   exact ⟨fun β h => hS1 β h, fun b hb => by simp only [G2]; rw [if_neg (this b hb)], fun b hb => by simp only [G2]; rw [if_neg (this b hb)], fun b hb => by simp only [G2]; rw [if_neg (this b hb)]⟩
  have hnotL : ∀ β, Tn Gc lent.length β → ∃ k, k < lent.length ∧ G.has (nm ls k) β := fun β ⟨k, hk, hb⟩ => ⟨k, hk, (hGc k β hk).1 hb⟩
  have hwS : ∀ β, G.S β → w'.heap[β]? = w.heap[β]? := fun β hβ => hbel.block β (hs.S_lt β hβ) fun h => by
   obtain ⟨k, hk, hg⟩ := hnotL β h
   exact (hs.at_ok _ _ β (hlk k hk).1 (hlk k hk).2 hg).2.2 hβ
  have hsz := hbel.size
  have hle := hs.below.size
  have hng := fun c => Mw (f := nu ls ns) (bx := st.bx) (ns := ns) (rv := rv) (c := c) hns hnd
  have hbg := Pk (f := nu ls ns) (bx := st.bx) (r := newB (nu ls ns) ns rv) (ls := ls) (lent := lent) (ch := ch) hll hln hch (fun c hc => (hng c).1 (hlsns c hc)) hlb
  have hblk : ∀ c k, Be st.bx (Jj (nu ls ns) ls lent ch (newB (nu ls ns) ns rv)) c = some k →
    (c ∉ ns ∧ c ∉ ls ∧ st.bx c = some k) ∨ (∃ m x, m < ns.length ∧ nm ns m = c ∧ rv[m]? = some x ∧ k = x.ren (nu ls ns)) ∨ (∃ m x, m < ls.length ∧ nm ls m = c ∧ lent[m]? = some x ∧ k = x.2.ren (nu ls ns)) := by
   intro c k hc
   by_cases hm : c ∈ ls
   ·obtain ⟨m, hm1, hm2⟩ := LM hm
    have hlx : lent[m]? = some (lent[m]'(by omega)) := by simp [show m < lent.length from by omega]
    have := hbg.2 m _ hlx
    rw [hm2, hc] at this
    exact .inr (.inr ⟨m, _, hm1, hm2, hlx, by simpa using this⟩)
   ·rw [hbg.1 c hm] at hc
    by_cases hm2 : c ∈ ns
    ·obtain ⟨m, hm1, hm3⟩ := LM hm2
     have hrx : rv[m]? = some (rv[m]'(by omega)) := by simp [show m < rv.length from by omega]
     have := (hng c).2 m _ hrx
     rw [hm3, hc] at this
     exact .inr (.inl ⟨m, _, hm1, hm3, hrx, by simpa using this⟩)
    ·rw [(hng c).1 hm2] at hc; exact .inl ⟨hm2, hm, hc⟩
  have hdom : ∀ b, I2 lent.length rv.length b = true → (Be st.bx (Jj (nu ls ns) ls lent ch (newB (nu ls ns) ns rv)) (nu ls ns b)).isSome = true := by
   intro b hb
   unfold I2 at hb
   split at hb
   ·rename_i h
    obtain ⟨k, _, rfl⟩ := Kh h
    rw [zD7] at hb
    have hk : k < lent.length := by omega
    rw [HS (by omega), hbg.2 k _ (show lent[k]? = some lent[k] by simp [hk])]; rfl
   ·rename_i h
    rw [zD7] at hb
    have hni : nm ns b ∉ ls := fun hm => hlsns _ hm (Fq (by omega))
    rw [M8 (by omega), hbg.1 _ hni, (hng (nm ns b)).2 b _ (show rv[b]? = some rv[b] by simp [hb])]; rfl
  have hren : ∀ l : List Nat, Ii lent.length rv.length l = true → ∀ b, b ∈ l → I2 lent.length rv.length b = true := fun l h b hb => uX.1 h b hb
  have hrenB : ∀ (k : BP) b, b ∈ (k.ren (nu ls ns)).names → ∃ b0, b0 ∈ k.names ∧ b = nu ls ns b0 := by
   intro k b hb
   cases k with
   | box cs =>
    obtain ⟨c, hc, hb⟩ := Bp.1 hb
    obtain ⟨c0, h0, rfl⟩ := zA6.1 hc
    obtain ⟨b0, h1, h2⟩ := Jx hb
    exact ⟨b0, Bp.2 ⟨c0, h0, h1⟩, h2⟩
   | vec e rows => cases hb
   | mp es => cases hb
   | dvec e cols rs => cases hb
   | pvec n e cols rs => cases hb
   | hol e cols i0 k0 c rs => exact ⟨c, by simp [BP.names], by simpa [BP.ren, BP.names] using hb⟩
   | gone => cases hb
  have hhasN : ∀ m β, m < ns.length → (G2.has (nm ns m) β ↔ G'.has m β) := fun m β hm => by
   have hmd : I2 lent.length rv.length m = true := by
    unfold I2; rw [J6 (show m < 90000 by omega) (vN _), if_neg (by simp), zD7]; omega
   have := hvia.has (β := β) hmd
   rwa [M8 (by omega)] at this
  have key : DP P X G2 ⟨st.env, Be st.bx (Jj (nu ls ns) ls lent ch (newB (nu ls ns) ns rv))⟩ a w' := by
   refine hs.frame (fun c hc => Ly hc) hext hwS ?_ ?_ ?_ ?_ ?_ ?_ (fun b hb => by
    have : b ∉ ns := fun hm => by rw [hndl.2 b hm] at hb; cases hb
    simp only [G2]; rw [if_neg this, if_neg this, if_neg this]; exact ⟨rfl, rfl, rfl⟩)
   ·intro c k hc
    rcases hblk c k hc with ⟨_, h0, h1⟩ | ⟨m, x, h1, h2, h3, h4⟩ | ⟨m, x, h1, h2, h3, h4⟩
    ·refine .inl ⟨h1, fun β hr hβ => hbel.block β (hs.at_ok c k β h1 hr hβ).2.1 fun hL => ?_⟩
     obtain ⟨j, hj, hg⟩ := hnotL β hL
     exact h0 ((hs.at_inj _ _ _ _ β h1 (hlk j hj).1 hr (hlk j hj).2 hβ hg) ▸ Fq (by omega))
    ·subst h4
     have hmd : I2 lent.length rv.length m = true := by
      unfold I2; rw [J6 (show m < 90000 by omega) (vN _), if_neg (by simp), zD7]; omega
     have hxn := hren _ (uX.1 hnmV x (lM h3))
     refine .inr ⟨?_, fun c' hc' => ?_⟩
     ·have := (hvec m x h3).ren hvia hmd hxn
      rwa [M8 (by omega), h2] at this
     ·obtain ⟨b0, hb0, rfl⟩ := hrenB x c' hc'
      exact hdom b0 (hxn b0 hb0)
    ·subst h4
     have hmd : I2 lent.length rv.length (90000 + m) = true := by
      unfold I2; rw [IZ (by omega), if_pos rfl, zD7]; omega
     have hxn := hren _ (uX.1 hnmL x (lM h3))
     refine .inr ⟨?_, fun c' hc' => ?_⟩
     ·have := (hpost m x h3).ren hvia hmd hxn
      rwa [HS (by omega), h2] at this
     ·obtain ⟨b0, hb0, rfl⟩ := hrenB x.2 c' hc'
      exact hdom b0 (hxn b0 hb0)
   ·intro c k β hc hr hβ
    rcases hblk c k hc with ⟨h0, _, h1⟩ | ⟨m, x, h1, h2, h3, h4⟩ | ⟨m, x, h1, h2, h3, h4⟩
    ·have hβ := (hext.has (by rw [h1]; rfl)).1 hβ
     have := hs.at_ok c k β h1 hr hβ
     refine ⟨this.1, by omega, fun h => ?_⟩
     rcases hS2 β h with h | h
     ·exact this.2.2 h
     ·omega
    ·rw [← h2, hhasN m β h1] at hβ
     have := hvat m β (by omega) hβ
     exact ⟨.new (by omega), this.2.1, this.2.2⟩
    ·subst h2
     have h5 := hlk m (by omega)
     have hβ := (hext.has (by rw [h5.1]; rfl)).1 hβ
     have := hs.at_ok _ _ β h5.1 h5.2 hβ
     refine ⟨this.1, by omega, hlS m β (by omega) ?_⟩
     have h6 := hsame m (by omega)
     unfold Gh.has at hβ ⊢
     rw [h6.1, h6.2.2]
     simp only [Gc]; rw [HS (by omega)]; exact hβ
   ·intro c c' k k' β hc hc' hr hr' hβ hβ'
    have old : ∀ c k, Be st.bx (Jj (nu ls ns) ls lent ch (newB (nu ls ns) ns rv)) c = some k → k.real = true → G2.has c β → (∃ k0, st.bx c = some k0 ∧ k0.real = true ∧ G.has c β) ∨ ∃ m, m < ns.length ∧ nm ns m = c ∧ G'.has m β := by
     intro c k hc hr hβ
     rcases hblk c k hc with ⟨h0, _, h1⟩ | ⟨m, x, h1, h2, h3, h4⟩ | ⟨m, x, h1, h2, h3, h4⟩
     ·exact .inl ⟨k, h1, hr, (hext.has (by rw [h1]; rfl)).1 hβ⟩
     ·rw [← h2, hhasN m β h1] at hβ
      exact .inr ⟨m, h1, h2, hβ⟩
     ·subst h2
      have h5 := hlk m (by omega)
      exact .inl ⟨_, h5.1, h5.2, (hext.has (by rw [h5.1]; rfl)).1 hβ⟩
    rcases old c k hc hr hβ with ⟨k0, h1, h2, h3⟩ | ⟨m, h1, h2, h3⟩ <;> rcases old c' k' hc' hr' hβ' with ⟨k0', h1', h2', h3'⟩ | ⟨m', h1', h2', h3'⟩
    ·exact hs.at_inj c c' k0 k0' β h1 h1' h2 h2' h3 h3'
    ·have h5 := hvat m' β (by omega) h3'
     have h6 := (hs.at_ok c k0 β h1 h2 h3).2.1
     omega
    ·have h5 := hvat m β (by omega) h3
     have h6 := (hs.at_ok c' k0' β h1' h2' h3').2.1
     omega
    ·have := hvinj m m' β (by omega) (by omega) h3 h3'
     rw [← h2, ← h2', this]
   ·intro β h
    rcases hS2 β h with h | h
    ·have := hs.S_lt β h; omega
    ·exact h.2
   ·intro β h
    rcases hS2 β h with h | h
    ·exact hs.S_src β h
    ·exact .inr (by omega)
   ·refine hs.below.trans ⟨hbel.os, hbel.tape, hbel.output, hbel.size, hbel.drawn, fun k hk hnl => hbel.block k (by omega) fun hL => ?_⟩
    obtain ⟨j, hj, hg⟩ := hnotL k hL
    rcases (hs.at_ok _ _ k (hlk j hj).1 (hlk j hj).2 hg).1.2 with h | h
    ·omega
    ·exact hnl h
  refine hK _ _ ⟨G2, key.put (some s) (some (res.ren (nu ls ns))) v (by intro t e; cases e; exact hn) ?_⟩
  rintro d ⟨⟩
  refine ⟨hres'.ren hvia (hren _ hnmR), fun b hb => ?_⟩
  obtain ⟨b0, h1, h2⟩ := JB hb
  rw [h2]
  exact hdom b0 (hren _ hnmR b0 h1)
theorem JD {f s : Nat} {xs : List Operand} {ds0 ds : List D} {lent : List (BP × BP)} {rv : List BP} {res : D} {ts : Array TypeId} (ls ns : List Nat) (ch : List Bool) (hc : DS P f ds lent rv res) (hat : At st.env ops i X.n (.call ⟨.value (.func f), xs.toArray, ts⟩) s gs)
  (hf : AF P f = true) (hl : xs.length = ds0.length) (hx : FX st.env (HJ xs ds0)) (hds : ds0.map D.nrm = ds.map (D.ren (nu ls ns)))
  (hll : ls.length = lent.length) (hln : ls.Nodup) (hlb : HK st.bx (Of (nu ls ns) ls lent)) (hns : ns.length = rv.length) (hndl : KV ns) (hnew : LT st.bx ns) (hch : TH lent ch)
  (hlim : (zD5 lent.length 1000 && zD5 rv.length 1000) = true) (hre : (lent.all fun x => x.1.real && x.2.real) = true)
  (hnm : (Ii lent.length rv.length res.names && (lent.all fun x => Ii lent.length rv.length x.2.names) && rv.all fun x => Ii lent.length rv.length x.names) = true)
  (next : Bd P X ops dr Q r (i + 1) (CV.upd ⟨gs ++ HJ xs ds0, Of (nu ls ns) ls lent, some s, some (res.ren (nu ls ns)), Jj (nu ls ns) ls lent ch (newB (nu ls ns) ns rv), ns⟩ st) ((i, ⟨gs ++ HJ xs ds0, Of (nu ls ns) ls lent, some s, some (res.ren (nu ls ns)), Jj (nu ls ns) ls lent ch (newB (nu ls ns) ns rv), ns⟩) :: log)) : Bd P X ops dr Q (r + 1) i st log := by
 obtain ⟨o, ho, hop, hd, hn, hg, hgp⟩ := hat.out
 exact Bd.step next ⟨Am.2 ⟨hgp, hx⟩, hlb, hnew⟩ (UM ls ns ch hc hat hf hl hds hll hln hns hndl hch hlim hre hnm)
end run
end Go.Lift
namespace Go.Lift
open List renaming mem_of_getElem? → lM
open Go.RowKit
variable {P : Program} {X : Io} {ops : Array Oper}
def Gv {α : Type} (xs : List α) (q : Nat) (ys : List α) : List α := xs.take q ++ ys ++ xs.drop (q + ys.length)
theorem Gg {α : Type} {xs ys : List α} {q : Nat} (h : q + ys.length ≤ xs.length) : (Gv xs q ys).length = xs.length := by
 unfold Gv; simp; omega
theorem Tq {α : Type} {xs ys : List α} {q : Nat} (h : q + ys.length ≤ xs.length) (i : Nat) : (Gv xs q ys)[i]? = if q ≤ i ∧ i < q + ys.length then ys[i - q]? else xs[i]? := by
 unfold Gv
 by_cases h1 : i < q
 ·rw [if_neg (by omega), zB1, zA0 (by simp; omega), vX h1]
 ·by_cases h2 : i < q + ys.length
  ·rw [if_pos (by omega), zA0 (by simp; omega), zA3 (by simp; omega)]
   congr 1; simp; omega
  ·rw [if_neg (by omega), zA3 (by simp; omega), zB0]
   congr 1; simp; omega
theorem QG {α β : Type} (f : α → β) (xs ys : List α) (q : Nat) : Gv (xs.map f) q (ys.map f) = (Gv xs q ys).map f := by
 unfold Gv; simp
inductive L3 : D → Nat → Nat → List (List T) → Nat → Nat → Prop where
 | own (b e : Nat) (rows : List (List T)) : L3 (.e (.one (.own b))) b e rows 0 rows.length
 | view (b e : Nat) (rows : List (List T)) (lo len : Nat) (h : lo + len ≤ rows.length) : L3 (.e (.one (.view b e lo len))) b e rows lo len
inductive NI : D → List (Nat × BP) → Nat → List (List T) → Prop where
 | of {d : D} {rb : List (Nat × BP)} {e : Nat} {rows : List (List T)} (h : X2 d rb e rows) : NI d rb e rows
 | view (b e : Nat) (rows : List (List T)) (lo len : Nat) (h : lo + len ≤ rows.length) : NI (.e (.one (.view b e lo len))) [(b, .vec e rows)] e ((rows.drop lo).take len)
theorem MW (q : Addr) : q.add 0 = q := by unfold Addr.add; simp
theorem LP {G : Gh} {w : World} {b e : Nat} {rows : List (List T)} (h : Fg P w G b (.vec e rows)) : ∃ a cap, G.hd b = .slice a rows.length cap ∧ rows.length ≤ cap ∧
  (0 < cap → ∃ β arr el, a = some ⟨β, 0, none⟩ ∧ G.loc b = some β ∧ w.heap[β]? = some (.cells arr el (0, 0)) ∧ arr.size = cap * e ∧ Ba w G.S arr e 0 rows) := by
 rcases h with ⟨a, h1, h2, _⟩ | ⟨β, cap, arr, el, h0, h1, h2, h3, h4, h5, h6⟩
 ·subst h2; exact ⟨a, 0, h1, vN _, fun h => by cases h⟩
 ·exact ⟨_, cap, h1, h3, fun _ => ⟨β, arr, el, rfl, h0, h2, h4, by rw [h4, uT]; exact uU e h3, h5, fun i row j t hi hj => by rw [uT]; exact h6 i row j t hi hj⟩⟩
section run
variable {dr : Bool} {Q : St → Prop} {r i : Nat} {st : St} {log : List (Nat × CV)} {o : Oper} {gs : List (Operand × D)}
theorem DP.dstV {G : Gh} {a : Act} {w : World} (hs : DP P X G st a w) {x : Operand} {d : D} {b e lo len : Nat} {rows : List (List T)} (hx : Lift.opd st.env x = some d) (h : L3 d b e rows lo len) (hb : st.bx b = some (.vec e rows)) :
  ∃ p cap', a.eval x = .slice p len cap' ∧ rows.length - lo ≤ cap' ∧ lo + len ≤ rows.length ∧
   (lo < rows.length → ∃ β cap arr el, G.loc b = some β ∧ G.hd b = .slice (some ⟨β, 0, none⟩) rows.length cap ∧ rows.length ≤ cap ∧ p = some ⟨β, lo * e, none⟩ ∧ w.heap[β]? = some (.cells arr el (0, 0)) ∧ arr.size = cap * e ∧ Ba w G.S arr e 0 rows) := by
 obtain ⟨a0, cap, h1, h2, h3⟩ := LP (hs.blk b _ hb)
 have hR := hs.opd hx
 cases h with
 | own =>
  obtain ⟨hR, _⟩ : Fv P w G (a.eval x) (.own b) := hR
  refine ⟨a0, cap, hR.trans h1, by omega, by omega, fun hlt => ?_⟩
  obtain ⟨β, arr, el, g1, g2, g3, g4, g5⟩ := h3 (by omega)
  subst g1
  exact ⟨β, cap, arr, el, g2, h1, h2, by simp, g3, g4, g5⟩
 | view _ _ _ _ _ h =>
  obtain ⟨a1, n1, cap1, p, k1, k2, k3, k4⟩ : Fv P w G (a.eval x) (.view b e lo len) := hR
  rw [h1] at k1
  cases k1
  refine ⟨p, cap - lo, k3, by omega, h, fun hlt => ?_⟩
  obtain ⟨β, arr, el, g1, g2, g3, g4, g5⟩ := h3 (by omega)
  subst g1
  refine ⟨β, cap, arr, el, g2, h1, h2, ?_, g3, g4, g5⟩
  rw [k4 (by omega)]
  simp [Addr.add_mk]
theorem DP.srcW {G : Gh} {a : Act} {w : World} (hs : DP P X G st a w) {x : Operand} {d : D} {rb : List (Nat × BP)} {e : Nat} {rows : List (List T)} (hx : Lift.opd st.env x = some d) (h : NI d rb e rows) (hb : HK st.bx rb) :
  ∃ p cap, a.eval x = .slice p rows.length cap ∧ (rows = [] ∨ ∃ β off arr el fz, p = some ⟨β, off, none⟩ ∧ w.heap[β]? = some (.cells arr el fz) ∧ Ba w G.S arr e off rows) := by
 cases h with
 | of h =>
  have hR := hs.opd hx
  cases h with
  | own b e rows =>
   obtain ⟨hR, _⟩ : Fv P w G (a.eval x) (.own b) := hR
   obtain ⟨a0, cap, h1, h2, h3⟩ := LP (hs.blk b _ hb.1)
   refine ⟨a0, cap, hR.trans h1, ?_⟩
   cases rows with
   | nil => exact .inl rfl
   | cons y ys =>
    obtain ⟨β, arr, el, g1, g2, g3, g4, g5⟩ := h3 (by simp at h2; omega)
    exact .inr ⟨β, 0, arr, el, (0, 0), g1, g3, g5⟩
  | sl e rows hrow =>
   have hR : D3 w G.S (a.eval x) (.sl rows) := hR
   generalize a.eval x = v at hR
   cases hR with
   | nil a' cap => exact ⟨_, _, rfl, .inl rfl⟩
   | sl β off cap e' arr el' fz rows h1 h2 h3 h4 h5 h6 =>
    refine ⟨_, _, rfl, ?_⟩
    cases rows with
    | nil => exact .inl rfl
    | cons r0 rs =>
     have he : e' = e := by rw [← hrow 0 r0 rfl]; exact (h5 0 r0 rfl).symm
     subst he
     exact .inr ⟨β, off, arr, el', fz, rfl, h2, h4, h5, h6⟩
  | nil e =>
   have hR : D3 w G.S (a.eval x) .nil0 := hR
   generalize a.eval x = v at hR
   cases hR with
   | nil0 a' => exact ⟨_, _, rfl, .inl rfl⟩
 | view b _ rows lo len h =>
  obtain ⟨p, cap', h1, h2, h3, h4⟩ := hs.dstV hx (.view b e rows lo len h) hb.1
  have hlen : ((rows.drop lo).take len).length = len := by simp; omega
  refine ⟨p, cap', by rw [hlen]; exact h1, ?_⟩
  by_cases hz : len = 0
  ·exact .inl (by rw [hz, List.take_zero])
  ·obtain ⟨β, cap, arr, el, g1, g2, g3, g4, g5, g6, g7⟩ := h4 (by omega)
   refine .inr ⟨β, lo * e, arr, el, (0, 0), g4, g5, ?_, ?_, ?_⟩
   ·rw [hlen, g6, ← vU]; exact uU e (by omega)
   ·intro i row hi
    have := AK hi
    rw [hlen] at this
    rw [vX this, zB0] at hi
    exact g7.2.1 _ row hi
   ·intro i row j t hi hj
    have := AK hi
    rw [hlen] at this
    rw [vX this, zB0] at hi
    have := g7.2.2 _ row j t hi hj
    rwa [uT, vU] at this
theorem Ba.take {w : World} {S : Nat → Prop} {arr : Array Value} {e off n : Nat} {rows : List (List T)} (h : Ba w S arr e off rows) : Ba w S arr e off (rows.take n) := by
 refine ⟨?_, ?_, ?_⟩
 ·have := h.1
  have h2 : (rows.take n).length * e ≤ rows.length * e := uU e (by simp; omega)
  omega
 ·intro i row hi
  have := AK hi
  simp at this
  rw [vX (by omega)] at hi
  exact h.2.1 i row hi
 ·intro i row j t hi hj
  have := AK hi
  simp at this
  rw [vX (by omega)] at hi
  exact h.2.2 i row j t hi hj
theorem L7 {w : World} {S : Nat → Prop} {p : Option Addr} {len cap e n : Nat} {rows : List (List T)} (hn : n ≤ rows.length) (h : rows = [] ∨ ∃ β off arr el fz, p = some ⟨β, off, none⟩ ∧ w.heap[β]? = some (.cells arr el fz) ∧ Ba w S arr e off rows) :
  ∃ news, (Builtin.firstCells e n (.slice p len cap)).run P w = .ok news w ∧ Ba w S news e 0 (rows.take n) ∧ news.size = n * e := by
 rcases h with h | ⟨β, off, arr, el, fz, h1, h2, h3⟩
 ·subst h
  have : n = 0 := by simpa using hn
  subst this
  obtain ⟨news, k1, k2, k3⟩ := Fx (P := P) (w := w) (a := p) (len := len) (cap := cap) (e := e) (S := S)
  exact ⟨news, k1 w rfl, by simpa using k2, by simpa using k3⟩
 ·subst h1
  have hl : (rows.take n).length = n := by simp; omega
  obtain ⟨news, k1, k2, k3⟩ := F0 (P := P) (len := len) (cap := cap) h2 (h3.take (n := n))
  rw [hl] at k1 k3
  exact ⟨news, k1 w rfl, k2, k3⟩
theorem N6 {G : Gh} {w : World} {b e β cap q : Nat} {rows rows2 : List (List T)} {arr news : Array Value} {el : TypeId} (hlt : β < w.heap.size) (hnS : ¬ G.S β) (h0 : G.loc b = some β) (h1 : G.hd b = .slice (some ⟨β, 0, none⟩) rows.length cap) (h3 : rows.length ≤ cap) (h4 : arr.size = cap * e) (h5 : Ba w G.S arr e 0 rows)
  (hn : Ba w G.S news e 0 rows2) (hns : news.size = rows2.length * e) (hq : q + rows2.length ≤ rows.length) :
  Fg P (DV w β (.cells (Fu arr (q * e) news.toList) el (0, 0))) G b (.vec e (Gv rows q rows2)) := by
 have hle : q * e + rows2.length * e ≤ cap * e := by rw [← vU]; exact uU e (by omega)
 have hS : ∀ γ, G.S γ → (DV w β (.cells (Fu arr (q * e) news.toList) el (0, 0))).heap[γ]? = w.heap[γ]? := fun γ hγ => by
  rw [CU, if_neg (fun (h : γ = β ∧ β < w.heap.size) => hnS (h.1 ▸ hγ))]
 have hrl : ∀ (i : Nat) (row : List T), (Gv rows q rows2)[i]? = some row → row.length = e := by
  intro i row hi
  rw [Tq hq] at hi
  split at hi
  ·exact hn.2.1 _ row hi
  ·exact h5.2.1 _ row hi
 refine .inr ⟨β, cap, Fu arr (q * e) news.toList, el, h0, by rw [Gg hq]; exact h1, by rw [CU, if_pos ⟨rfl, hlt⟩], by rw [Gg hq]; exact h3, by rw [Fe, h4], hrl, ?_⟩
 intro i row j t hi hj
 have hj' := AK hj
 have hre := hrl i row hi
 rw [Tq hq] at hi
 rw [Ey _ _ _ _ (by simp; omega)]
 simp only [zC8, hns]
 split at hi
 ·rename_i hin
  have hle2 : (i - q) * e + e ≤ rows2.length * e := by rw [← vZ]; exact uU e (by omega)
  have hsp : i * e = q * e + (i - q) * e := by rw [← vU]; congr 1; omega
  rw [if_pos (by omega)]
  have := hn.2.2 _ row j t hi hj
  rw [uT] at this
  have h6 : (news.toList[i * e + j - q * e]?).getD undef = Au news ((i - q) * e + j) := by
   rw [show i * e + j - q * e = (i - q) * e + j from by omega]
   unfold Au; simp
  rw [h6]
  exact this.mono hS fun _ h => h
 ·rename_i hin
  rw [if_neg]
  ·have := h5.2.2 _ row j t hi hj
   rw [uT] at this
   exact this.mono hS fun _ h => h
  ·rintro ⟨k1, k2⟩
   by_cases hiq : i < q
   ·have : i * e + e ≤ q * e := by rw [← vZ]; exact uU e hiq
    omega
   ·have : q * e + rows2.length * e ≤ i * e := by rw [← vU]; exact uU e (by omega)
    omega
theorem U7 {x : Operand} {t el s e l h b lo0 len : Nat} {lo hi : Option Operand} {rl rh : List (Operand × D)} {rows : List (List T)} {d : D} (hat : At st.env ops i X.n (.slice t x lo hi none) s gs)
  (hx : opd st.env x = some d) (hD : L3 d b e rows lo0 len) (hb : st.bx b = some (.vec e rows)) (ht : sliceB P t el = true) (he : Hl P el e = true) (hlo : Ui lo 0 l rl) (hhi : Ui hi len h rh) (h1 : FX st.env rl) (h2 : FX st.env rh) (hlh : l ≤ h) (hhl : lo0 + h ≤ rows.length)
  (next : Bd P X ops dr Q r (i + 1) (CV.upd ⟨gs ++ ((x, d) :: (rl ++ rh)), [(b, .vec e rows)], some s, some (.e (.one (.view b e (lo0 + l) (h - l)))), [], []⟩ st) ((i, ⟨gs ++ ((x, d) :: (rl ++ rh)), [(b, .vec e rows)], some s, some (.e (.one (.view b e (lo0 + l) (h - l)))), [], []⟩) :: log)) : Bd P X ops dr Q (r + 1) i st log := by
 obtain ⟨o, ho, hop, hd, hn, hg, hgp⟩ := hat.out
 refine Bd.step next ⟨Am.2 ⟨hgp, hx, Am.2 ⟨h1, h2⟩⟩, ⟨hb, trivial⟩, trivial⟩ (LR.value ho hg rfl hd.symm (DW hd hn) ?_)
 intro G st a w hs hpre
 obtain ⟨hx, h12⟩ := (Am.1 hpre.r).2
 obtain ⟨h1, h2⟩ := Am.1 h12
 have hb := hpre.b.1
 -- the header of the whole
 obtain ⟨a0, cap, k1, k2, k3⟩ := LP (hs.blk b _ hb)
 have hv : ∃ p, a.eval x = .slice p len (cap - lo0) ∧ lo0 + len ≤ rows.length ∧ (lo0 < cap → p = a0.map fun q => q.add (lo0 * e)) := by
  have hR := hs.opd hx
  cases hD with
  | own =>
   obtain ⟨hR, _⟩ : Fv P w G (a.eval x) (.own b) := hR
   exact ⟨a0, hR.trans k1, by omega, fun _ => by cases a0 <;> simp [MW]⟩
  | view _ _ _ _ _ h' =>
   obtain ⟨a1, n1, cap1, p, g1, g2, g3, g4⟩ : Fv P w G (a.eval x) (.view b e lo0 len) := hR
   rw [k1] at g1; cases g1
   exact ⟨p, g3, h', g4⟩
 obtain ⟨p, hv1, hv2, hv3⟩ := hv
 refine ⟨.slice (if cap - lo0 = l then p else p.map (·.add (l * e))) (h - l) (cap - lo0 - l), w, G, ?_, hs, ?_⟩
 ·simp only [execOp, hop]
  refine Ai (a := .slice (if cap - lo0 = l then p else p.map (·.add (l * e))) (h - l) (cap - lo0 - l)) (w1 := w) ?_ rfl
  rw [hv1]
  exact KS (a := a) hs ht he hlo hhi h1 h2 hlh (by omega)
 ·rintro d' ⟨⟩
  refine ⟨⟨a0, rows.length, cap, _, k1, by omega, by rw [show cap - lo0 - l = cap - (lo0 + l) from by omega], fun hlt => ?_⟩, fun b' hb' => ?_⟩
  ·rw [if_neg (by omega), hv3 (by omega)]
   obtain ⟨β, arr, el', g1, _⟩ := k3 (by omega)
   subst g1
   simp only [zC2, Addr.add_mk, vU, uT]
  ·simp [D.names, E.names, C.names] at hb'
   subst hb'
   simp [Be, hb]
theorem VL {x yl yh ym : Operand} {t el s e b : Nat} {rows : List (List T)} {kl kh km : IntKind} {vl vh vm : Int} (hat : At st.env ops i X.n (.slice t x (some yl) (some yh) (some ym)) s gs)
  (hx : opd st.env x = some (.e (.one (.own b)))) (hb : st.bx b = some (.vec e rows)) (ht : sliceB P t el = true) (he : Hl P el e = true) (h1 : opd st.env yl = some (vD (.int kl vl))) (h2 : opd st.env yh = some (vD (.int kh vh))) (h3 : opd st.env ym = some (vD (.int km vm)))
  (g1 : 0 ≤ vl) (g2 : vl.toNat ≤ vh.toNat) (g3 : 0 ≤ vh) (g4 : vh.toNat ≤ vm.toNat) (g5 : 0 ≤ vm) (g6 : vm.toNat ≤ rows.length)
  (next : Bd P X ops dr Q r (i + 1) (CV.upd ⟨gs ++ [(x, .e (.one (.own b))), (yl, vD (.int kl vl)), (yh, vD (.int kh vh)), (ym, vD (.int km vm))], [(b, .vec e rows)], some s, some (.e (.one .any)), [], []⟩ st) ((i, ⟨gs ++ [(x, .e (.one (.own b))), (yl, vD (.int kl vl)), (yh, vD (.int kh vh)), (ym, vD (.int km vm))], [(b, .vec e rows)], some s, some (.e (.one .any)), [], []⟩) :: log)) : Bd P X ops dr Q (r + 1) i st log := by
 obtain ⟨o, ho, hop, hd, hn, hg, hgp⟩ := hat.out
 refine Bd.step next ⟨Am.2 ⟨hgp, hx, h1, h2, h3, trivial⟩, ⟨hb, trivial⟩, trivial⟩ (LR.value ho hg rfl hd.symm (DW hd hn) ?_)
 intro G st a w hs hpre
 obtain ⟨hx, h1, h2, h3, _⟩ := (Am.1 hpre.r).2
 have hb := hpre.b.1
 obtain ⟨a0, cap, k1, k2, k3⟩ := LP (hs.blk b _ hb)
 obtain ⟨hR, _⟩ : Fv P w G (a.eval x) (.own b) := hs.opd hx
 have e1 : a.eval yl = .int kl vl := EJ (hs.opd h1 : D3 w G.S (a.eval yl) (.val _))
 have e2 : a.eval yh = .int kh vh := EJ (hs.opd h2 : D3 w G.S (a.eval yh) (.val _))
 have e3 : a.eval ym = .int km vm := EJ (hs.opd h3 : D3 w G.S (a.eval ym) (.val _))
 refine ⟨.slice (if vm.toNat = vl.toNat then a0 else a0.map (·.add (vl.toNat * e))) (vh.toNat - vl.toNat) (vm.toNat - vl.toNat), w, G, ?_, hs, ?_⟩
 ·simp only [execOp, hop]
  refine Ai (w1 := w) (a := .slice (if vm.toNat = vl.toNat then a0 else a0.map (·.add (vl.toNat * e))) (vh.toNat - vl.toNat) (vm.toNat - vl.toNat)) ?_ rfl
  unfold sliceB at ht
  split at ht
  ·rename_i e' hu
   have : e' = el := by simpa using ht
   subst this
   unfold Instr.sliceAt
   refine Ai (AI hu w) ?_
   unfold Instr.slice
   rw [hR, k1]
   refine Ai (AI hu w) ?_
   refine Ai (a := (vl.toNat, vh.toNat, vm.toNat)) (w1 := w) ?_ ?_
   ·unfold Instr.sliceBounds
    simp only [zC2, e1, e2, e3, if_true, Option.isSome_some]
    refine Ai (Gx g5 (by omega) w) ?_
    refine Ai (Gx g3 g4 w) ?_
    exact Ai (Gx g1 g2 w) rfl
   ·exact Ai (Dy he w) rfl
  ·cases ht
 ·rintro d' ⟨⟩
  exact ⟨rfl, fun b' hb' => by cases hb'⟩
theorem Yk {x : Operand} {s t el b e lo len : Nat} (hat : At st.env ops i X.n (.call ⟨.builtin .len, #[x], #[t]⟩) s gs)
  (hx : opd st.env x = some (.e (.one (.view b e lo len)))) (ht : sliceB P t el = true)
  (next : Bd P X ops dr Q r (i + 1) (CV.upd ⟨gs ++ [(x, .e (.one (.view b e lo len)))], [], some s, some (vD (goInt len)), [], []⟩ st) ((i, ⟨gs ++ [(x, .e (.one (.view b e lo len)))], [], some s, some (vD (goInt len)), [], []⟩) :: log)) : Bd P X ops dr Q (r + 1) i st log := by
 obtain ⟨o, ho, hop, hd, hn, hg, hgp⟩ := hat.out
 refine Bd.step next ⟨Am.2 ⟨hgp, hx, trivial⟩, trivial, trivial⟩ (LR.value ho hg rfl hd.symm (DW hd hn) ?_)
 intro G st a w hs hpre
 obtain ⟨hx, _⟩ := (Am.1 hpre.r).2
 obtain ⟨a1, n1, cap1, p, k1, k2, k3, k4⟩ : Fv P w G (a.eval x) (.view b e lo len) := hs.opd hx
 refine ⟨goInt len, w, G, ?_, hs, ?_⟩
 ·simp only [execOp, hop]
  refine F8 fun cs => ?_
  simp only [zD3, zA1, zE7, builtin, k3]
  exact Ai (L4 ht) rfl
 ·rintro d ⟨⟩
  exact ⟨.val _ rfl, fun b hb => by cases hb⟩
theorem VU {x y : Operand} {s e b lo len : Nat} {rows : List (List T)} {_row : List T} {t el : TypeId} {k : IntKind} {n : Int} (hat : At st.env ops i X.n (.indexAddr t x y) s gs)
  (hx : opd st.env x = some (.e (.one (.view b e lo len)))) (hle : lo + len ≤ rows.length) (hy : opd st.env y = some (vD (.int k n))) (hb : st.bx b = some (.vec e rows)) (ht : sliceB P t el = true) (hz : Hl P el e = true) (h0 : 0 ≤ n) (hn1 : n.toNat < len)
  (next : Bd P X ops dr Q r (i + 1) (CV.upd ⟨gs ++ [(x, .e (.one (.view b e lo len))), (y, vD (.int k n))], [(b, .vec e rows)], some s, some (.e (.one (.eptr b e (lo + n.toNat) 0))), [], []⟩ st) ((i, ⟨gs ++ [(x, .e (.one (.view b e lo len))), (y, vD (.int k n))], [(b, .vec e rows)], some s, some (.e (.one (.eptr b e (lo + n.toNat) 0))), [], []⟩) :: log)) : Bd P X ops dr Q (r + 1) i st log := by
 obtain ⟨o, ho, hop, hd, hn, hg, hgp⟩ := hat.out
 refine Bd.step next ⟨Am.2 ⟨hgp, hx, hy, trivial⟩, ⟨hb, trivial⟩, trivial⟩ (LR.value ho hg rfl hd.symm (DW hd hn) ?_)
 intro G st a w hs hpre
 obtain ⟨hx, hy, _⟩ := (Am.1 hpre.r).2
 have hb := hpre.b.1
 obtain ⟨p, cap', h1, h2, h3, h4⟩ := hs.dstV hx (.view b e rows lo len hle) hb
 have hY : a.eval y = .int k n := EJ (hs.opd hy : D3 w G.S (a.eval y) (.val _))
 obtain ⟨β, cap, arr, el', g1, g2, g3, g4, g5, g6, g7⟩ := h4 (by omega)
 subst g4
 refine ⟨_, w, G, by simp only [execOp, hop, h1, hY]; exact Ai (K3 ht hz h0 hn1) rfl, hs, ?_⟩
 rintro d ⟨⟩
 exact ⟨⟨β, g1, by simp [vU]⟩, fun b' hb' => hs.opd_live hx b' (by simpa [D.names, E.names, C.names] using hb')⟩
theorem KI {t t2 el e : Nat} {w : World} {p p2 : Option Addr} {dl dc n2 c2 : Nat} {news : Array Value} {ty : TypeId} (ht : sliceB P t el = true) (he : Hl P el e = true) (hnew : (Builtin.firstCells e (zB4 n2 dl) (.slice p2 n2 c2)).run P w = .ok news w) {w' : World}
  (hst : ∀ q, p = some q → (storeCells q news.toList).run P w = .ok () w') (hno : p = none → w' = w) : (Builtin.copy_ #[t, t2] ty #[.slice p dl dc, .slice p2 n2 c2]).run P w = .ok (goInt (zB4 n2 dl)) w' := by
 unfold sliceB at ht
 split at ht
 ·rename_i e' hu
  have : e' = el := by simpa using ht
  subst this
  unfold Builtin.copy_
  refine Ai (AI hu w) ?_
  refine Ai (a := n2) (w1 := w) rfl ?_
  refine Ai (Dy he w) ?_
  refine Ai hnew ?_
  cases p with
  | none => rw [hno rfl]; rfl
  | some q => exact Ai (hst q rfl) rfl
 ·cases ht
theorem XR {x y : Operand} {t t2 el s e b lo len : Nat} {d d2 : D} {rb2 : List (Nat × BP)} {rows rows2 rows' : List (List T)} (hat : At st.env ops i X.n (.call ⟨.builtin .copy, #[x, y], #[t, t2]⟩) s gs)
  (hx : opd st.env x = some d) (hD : L3 d b e rows lo len) (hb : st.bx b = some (.vec e rows)) (hy : opd st.env y = some d2) (hS : NI d2 rb2 e rows2) (hb2 : HK st.bx rb2) (ht : sliceB P t el = true) (he : Hl P el e = true) (hr : Gv rows lo (rows2.take (zB4 rows2.length len)) = rows')
  (next : Bd P X ops dr Q r (i + 1) (CV.upd ⟨gs ++ [(x, d), (y, d2)], (b, .vec e rows) :: rb2, some s, some (vD (goInt (zB4 rows2.length len))), [(b, .vec e rows')], []⟩ st) ((i, ⟨gs ++ [(x, d), (y, d2)], (b, .vec e rows) :: rb2, some s, some (vD (goInt (zB4 rows2.length len))), [(b, .vec e rows')], []⟩) :: log)) : Bd P X ops dr Q (r + 1) i st log := by
 obtain ⟨o, ho, hop, hd, hn, hg, hgp⟩ := hat.out
 refine Bd.step next ⟨Am.2 ⟨hgp, hx, hy, trivial⟩, ⟨hb, hb2⟩, trivial⟩ (LR.value ho hg rfl hd.symm (DW hd hn) ?_)
 intro G st a w hs hpre
 obtain ⟨hx, hy, _⟩ := (Am.1 hpre.r).2
 obtain ⟨hb, hb2⟩ := hpre.b
 subst hr
 obtain ⟨p, cap', h1, h2, h3, h4⟩ := hs.dstV hx hD hb
 obtain ⟨p2, cap2, k1, k2⟩ := hs.srcW hy hS hb2
 have hmin : zB4 rows2.length len ≤ rows2.length := Nat.min_le_left _ _
 have hmin2 : zB4 rows2.length len ≤ len := Nat.min_le_right _ _
 obtain ⟨news, n1, n2, n3⟩ := L7 (P := P) (len := rows2.length) (cap := cap2) hmin k2
 have hl2 : (rows2.take (zB4 rows2.length len)).length = zB4 rows2.length len := by rw [List.length_take]; exact Nat.min_eq_left hmin
 have hrun : ∀ w', (∀ q, p = some q → (storeCells q news.toList).run P w = .ok () w') → (p = none → w' = w) → (execOp a.eval o).run P w = .ok (.value (goInt (zB4 rows2.length len))) w' := fun w' g1 g2 => by
  simp only [execOp, hop]
  refine F8 fun cs => ?_
  simp only [zD3, zA1, zE7, builtin, h1, k1]
  exact Ai (KI ht he n1 g1 g2) rfl
 have fin : ∀ d', some (vD (goInt (zB4 rows2.length len))) = some d' → ∀ w' (G' : Gh), HE P w' G' (goInt (zB4 rows2.length len)) d' ∧ ∀ c, c ∈ d'.names → (Be st.bx [(b, .vec e (Gv rows lo (rows2.take (zB4 rows2.length len))))] c).isSome = true := fun d' hd' w' G' => by
  cases hd'; exact ⟨.val _ rfl, fun c hc => by cases hc⟩
 by_cases hlt : lo < rows.length
 ·obtain ⟨β, cap, arr, el', g1, g2, g3, g4, g5, g6, g7⟩ := h4 hlt
  subst g4
  have hat := hs.at_ok b _ β hb rfl (.inl g1)
  have hle : lo * e + zB4 rows2.length len * e ≤ arr.size := by rw [g6, ← vU]; exact uU e (by omega)
  have hst := Dz (P := P) (β := β) (el := el') news.toList w (lo * e) 0 arr g5 (by simp [n3]; omega) (Ba.ones n2 (by rw [n3, hl2]))
  rw [zB6] at hst
  refine ⟨_, _, G, hrun _ (fun q hq => by cases hq; exact hst) (fun h => by cases h), ?_, fun d' hd' => fin d' hd' _ _⟩
  exact hs.setB (b := b) (k0 := .vec e rows) hb rfl rfl (.inl g1) (N6 hat.2.1 hat.2.2 g1 g2 g3 g6 g7 n2 (by rw [n3, hl2]) (by rw [hl2]; omega)) (fun c hc => by cases hc)
 ·have hz : zB4 rows2.length len = 0 := by omega
  have hn0 : news.toList = [] := zA4 (by simp [n3, hz])
  have hsp : Gv rows lo (rows2.take (zB4 rows2.length len)) = rows := by
   have : lo = rows.length := by omega
   rw [hz]; unfold Gv; simp [this]
  refine ⟨_, w, G, hrun w (fun q _ => by rw [hn0]; rfl) (fun _ => rfl), ?_, fun d' hd' => fin d' hd' _ _⟩
  have : (⟨st.env, Be st.bx [(b, .vec e (Gv rows lo (rows2.take (zB4 rows2.length len))))]⟩ : St) = st := by
   refine St.ext (fun _ => rfl) fun c => ?_
   simp only [Be]
   split
   ·rename_i e1; rw [e1, hsp, hb]
   ·rfl
  rw [this]; exact hs
theorem T3 {x y : Operand} {t t2 el el2 s e b lo len : Nat} {d d2 : D} {rb2 : List (Nat × BP)} {rows rows2 rows' : List (List T)} (hat : At st.env ops i X.n (.call ⟨.builtin .append, #[x, y], #[t, t2]⟩) s gs)
  (hx : opd st.env x = some d) (hD : L3 d b e rows lo len) (hb : st.bx b = some (.vec e rows)) (hy : opd st.env y = some d2) (hS : NI d2 rb2 e rows2) (hb2 : HK st.bx rb2)
  (ht : sliceB P t el = true) (ht2 : sliceB P t2 el2 = true) (he : Hl P el e = true) (hfit : lo + len + rows2.length ≤ rows.length) (hr : Gv rows (lo + len) rows2 = rows')
  (next : Bd P X ops dr Q r (i + 1) (CV.upd ⟨gs ++ [(x, d), (y, d2)], (b, .vec e rows) :: rb2, some s, some (.e (.one (.view b e lo (len + rows2.length)))), [(b, .vec e rows')], []⟩ st) ((i, ⟨gs ++ [(x, d), (y, d2)], (b, .vec e rows) :: rb2, some s, some (.e (.one (.view b e lo (len + rows2.length)))), [(b, .vec e rows')], []⟩) :: log)) : Bd P X ops dr Q (r + 1) i st log := by
 obtain ⟨o, ho, hop, hd, hn, hg, hgp⟩ := hat.out
 refine Bd.step next ⟨Am.2 ⟨hgp, hx, hy, trivial⟩, ⟨hb, hb2⟩, trivial⟩ (LR.value ho hg rfl hd.symm (DW hd hn) ?_)
 intro G st a w hs hpre
 obtain ⟨hx, hy, _⟩ := (Am.1 hpre.r).2
 obtain ⟨hb, hb2⟩ := hpre.b
 subst hr
 -- the header of the whole
 obtain ⟨a0, cap0, q1, q2, q3⟩ := LP (hs.blk b _ hb)
 have hlc0 : rows2.length ≠ 0 → lo < cap0 := fun h => by omega
 have hfe : (lo + len) * e + rows2.length * e ≤ cap0 * e := by rw [← vU]; exact uU e (by omega)
 have hca : len + rows2.length ≤ cap0 - lo := by omega
 have hcb : lo + (len + rows2.length) ≤ cap0 := by omega
 have hv : ∃ p, a.eval x = .slice p len (cap0 - lo) ∧ (lo < cap0 → p = a0.map fun q => q.add (lo * e)) := by
  have hR := hs.opd hx
  cases hD with
  | own =>
   obtain ⟨hR, _⟩ : Fv P w G (a.eval x) (.own b) := hR
   exact ⟨a0, hR.trans q1, fun _ => by cases a0 <;> simp [MW]⟩
  | view _ _ _ _ _ h' =>
   obtain ⟨a1, n1, cap1, p, g1, g2, g3, g4⟩ : Fv P w G (a.eval x) (.view b e lo len) := hR
   rw [q1] at g1; cases g1
   exact ⟨p, g3, g4⟩
 obtain ⟨p, h1, hpa⟩ := hv
 obtain ⟨p2, cap2, k1, k2⟩ := hs.srcW hy hS hb2
 obtain ⟨news, n1, n2, n3⟩ := L7 (P := P) (len := rows2.length) (cap := cap2) (vN _) k2
 rw [zH0] at n2
 have hrun : ∀ w', (∀ q, p = some q → (storeCells (q.add (len * e)) news.toList).run P w = .ok () w') → (p = none → w' = w) → (execOp a.eval o).run P w = .ok (.value (.slice p (len + rows2.length) (cap0 - lo))) w' := fun w' g1 g2 => by
  simp only [execOp, hop]
  refine F8 fun cs => ?_
  simp only [zD3, zA1, zE7, builtin, h1, k1]
  refine Ai (a := .slice p (len + rows2.length) (cap0 - lo)) (w1 := w') ?_ rfl
  unfold sliceB at ht ht2
  split at ht
  ·rename_i e' hu
   split at ht2
   ·rename_i e2' hu2
    have : e' = el := by simpa using ht
    subst this
    unfold Builtin.append_
    refine Ai (AI hu w) ?_
    refine Ai (Dy he w) ?_
    refine Ai (AI hu2 w) ?_
    refine Ai (a := false) (w1 := w) rfl ?_
    refine Ai (a := rows2.length) (w1 := w) rfl ?_
    simp only [hca, if_true]
    refine Ai n1 ?_
    cases p with
    | none => rw [g2 rfl]; rfl
    | some q => exact Ai (g1 q rfl) rfl
   ·cases ht2
  ·cases ht
 have fin : ∀ w' (d' : D), some (D.e (.one (.view b e lo (len + rows2.length)))) = some d' → HE P w' G (.slice p (len + rows2.length) (cap0 - lo)) d' ∧ ∀ c, c ∈ d'.names → (Be st.bx [(b, .vec e (Gv rows (lo + len) rows2))] c).isSome = true := fun w' d' hd' => by
  cases hd'
  refine ⟨⟨a0, rows.length, cap0, p, q1, hcb, rfl, hpa⟩, fun c hc => ?_⟩
  simp [D.names, E.names, C.names] at hc
  subst hc; simp [Be]
 by_cases hz : rows2.length = 0
 ·have hn0 : news.toList = [] := zA4 (by simp [n3, hz])
  have h2 : rows2 = [] := zA4 hz
  have hsp : Gv rows (lo + len) rows2 = rows := by rw [h2]; unfold Gv; simp
  refine ⟨_, w, G, hrun w (fun q _ => by rw [hn0]; rfl) (fun _ => rfl), ?_, fin w⟩
  have : (⟨st.env, Be st.bx [(b, .vec e (Gv rows (lo + len) rows2))]⟩ : St) = st := by
   refine St.ext (fun _ => rfl) fun c => ?_
   simp only [Be]
   split
   ·rename_i e1; rw [e1, hsp, hb]
   ·rfl
  rw [this]; exact hs
 ·have hc0 : 0 < cap0 := Nat.lt_of_le_of_lt (vG _) (hlc0 hz)
  obtain ⟨β, arr, el', g1, g2, g3, g4, g5⟩ := q3 hc0
  subst g1
  have hat := hs.at_ok b _ β hb rfl (.inl g2)
  have hp : p = some ⟨β, lo * e, none⟩ := by rw [hpa (hlc0 hz)]; simp [Addr.add_mk]
  have hle : (lo + len) * e + rows2.length * e ≤ arr.size := by rw [g4]; exact hfe
  have hst := Dz (P := P) (β := β) (el := el') news.toList w ((lo + len) * e) 0 arr g3 (by simp only [zC8, n3, zB6]; exact hle) (Ba.ones n2 n3)
  rw [zB6] at hst
  refine ⟨_, _, G, hrun _ (fun q hq => by rw [hp] at hq; cases hq; rw [Addr.add_mk, ← vU]; exact hst) (fun h => by rw [hp] at h; cases h), ?_, fin _⟩
  exact hs.setB (b := b) (k0 := .vec e rows) hb rfl rfl (.inl g2) (N6 hat.2.1 hat.2.2 g2 q1 q2 g4 g5 n2 n3 hfit) (fun c hc => by cases hc)
theorem OI {w : World} {S : Nat → Prop} {z : Value} {zs : List Value} {e n : Nat} (hzs : z.cells.toList = zs) (hz1 : zs.all Hd = true) (hze : zs.length = e) : Ba w S (Builtin.zeroCells z.cells n) e 0 (uY n (zs.map fun v => (T.of v).nrm)) ∧ (Builtin.zeroCells z.cells n).size = n * e := by
 have hsz : z.cells.size = e := by rw [← hze, ← hzs]; simp
 have hsize : (Builtin.zeroCells z.cells n).size = n * e := by unfold Builtin.zeroCells; simp [hsz]
 refine ⟨⟨by rw [hsize]; simp, ?_, ?_⟩, hsize⟩
 ·intro i row hi
  rw [List.getElem?_replicate] at hi
  split at hi
  ·cases hi; simp [hze]
  ·cases hi
 ·intro i row j t hi hj
  rw [List.getElem?_replicate] at hi
  split at hi
  ·rename_i hlt
   cases hi
   rw [vC] at hj
   cases hv : zs[j]? with
   | none => rw [hv] at hj; cases hj
   | some v =>
    rw [hv] at hj; cases hj
    have hj' : j < e := by rw [← hze]; exact AK hv
    have hle : i * e + e ≤ n * e := by rw [← vZ]; exact uU e hlt
    have hc : Au (Builtin.zeroCells z.cells n) (0 + i * e + j) = v := by
     unfold Au Builtin.zeroCells
     rw [uT, hsz]
     have h1 : i * e + j < n * e := by omega
     rw [Array.getElem?_map, show (Array.range (n * e))[i * e + j]? = some (i * e + j) from by simp [h1]]
     simp only [zC2, vW]
     have h2 : (i * e + j) % e = j := by rw [Nat.add_comm, Nat.add_mul_mod_self_right, Nat.mod_eq_of_lt hj']
     rw [h2]
     have h3 : z.cells[j]? = some v := by rw [← Array.getElem?_toList, hzs]; exact hv
     show z.cells[j]! = v
     rw [Array.getElem!_eq_getD, zB8, h3]; rfl
    rw [hc]
    exact (D3.of (uX.1 hz1 v (lM hv))).nrm
  ·cases hi
theorem UT {x : Operand} {t el b e lo len : Nat} {z : Value} {zs : List Value} {d : D} {rows rows' : List (List T)} (hop0 : Q2 ops i = some (.call ⟨.builtin .clear, #[x], #[t]⟩))
  (hx : opd st.env x = some d) (hD : L3 d b e rows lo len) (hb : st.bx b = some (.vec e rows)) (ht : sliceB P t el = true) (hz : EN P el = some z) (hzs : z.cells.toList = zs) (hz1 : zs.all Hd = true) (hze : zs.length = e)
  (hr : Gv rows lo (uY len (zs.map fun v => (T.of v).nrm)) = rows')
  (next : Bd P X ops dr Q r (i + 1) (CV.upd ⟨[(x, d)], [(b, .vec e rows)], none, none, [(b, .vec e rows')], []⟩ st) ((i, ⟨[(x, d)], [(b, .vec e rows)], none, none, [(b, .vec e rows')], []⟩) :: log)) : Bd P X ops dr Q (r + 1) i st log := by
 obtain ⟨o, ho, hop, hd, hgn⟩ := NP hop0
 have hg : UJ ops o [] := .none hgn
 refine Bd.step next ⟨⟨hx, trivial⟩, ⟨hb, trivial⟩, trivial⟩ (LR.value (rs := [(x, d)]) ho hg rfl hd.symm (fun s h => by rw [hd] at h; cases h) ?_)
 intro G st a w hs hpre
 have hx := hpre.r.1
 have hb := hpre.b.1
 subst hr
 obtain ⟨p, cap', h1, h2, h3, h4⟩ := hs.dstV hx hD hb
 obtain ⟨n2, n3⟩ := OI (w := w) (S := G.S) (n := len) hzs hz1 hze
 have hl2 : (uY len (zs.map fun v => (T.of v).nrm)).length = len := by simp
 have hrun : ∀ w', (len ≠ 0 → ∃ q, p = some q ∧ (storeCells q (Builtin.zeroCells z.cells len).toList).run P w = .ok () w') → (len = 0 → w' = w) → (execOp a.eval o).run P w = .ok (.value (.tuple #[])) w' := fun w' g1 g2 => by
  simp only [execOp, hop]
  refine F8 fun cs => ?_
  simp only [zD3, zA1, zE7, builtin, h1]
  refine Ai (a := .tuple #[]) (w1 := w') ?_ rfl
  unfold sliceB at ht
  split at ht
  ·rename_i e' hu
   have : e' = el := by simpa using ht
   subst this
   unfold Builtin.clear_
   refine Ai (AI hu w) ?_
   by_cases hz0 : len = 0
   ·rw [g2 hz0]
    subst hz0
    cases p <;> rfl
   ·obtain ⟨q, hq, hst⟩ := g1 hz0
    subst hq
    obtain ⟨len', rfl⟩ : ∃ m, len = m + 1 := ⟨len - 1, (Nat.succ_pred_eq_of_pos (zG9 hz0)).symm⟩
    refine Ai (Fc hz w) ?_
    exact Ai hst rfl
  ·cases ht
 have fin : ∀ (d' : D), (none : Option D) = some d' → ∀ w', HE P w' G (.tuple #[]) d' ∧ ∀ c, c ∈ d'.names → (Be st.bx [(b, .vec e (Gv rows lo (uY len (zs.map fun v => (T.of v).nrm))))] c).isSome = true := fun d' hd' => by cases hd'
 by_cases hz0 : len = 0
 ·have hsp : Gv rows lo (uY len (zs.map fun v => (T.of v).nrm)) = rows := by rw [hz0]; unfold Gv; simp
  refine ⟨_, w, G, hrun w (fun h => (h hz0).elim) (fun _ => rfl), ?_, fun d' hd' => fin d' hd' _⟩
  have : (⟨st.env, Be st.bx [(b, .vec e (Gv rows lo (uY len (zs.map fun v => (T.of v).nrm))))]⟩ : St) = st := by
   refine St.ext (fun _ => rfl) fun c => ?_
   simp only [Be]
   split
   ·rename_i e1; rw [e1, hsp, hb]
   ·rfl
  rw [this]; exact hs
 ·have hlr : lo < rows.length := Nat.lt_of_lt_of_le (Nat.lt_add_of_pos_right (zG9 hz0)) h3
  obtain ⟨β, cap, arr, el', g1, g2, g3, g4, g5, g6, g7⟩ := h4 hlr
  subst g4
  have hat := hs.at_ok b _ β hb rfl (.inl g1)
  have hle : lo * e + len * e ≤ arr.size := by rw [g6, ← vU]; exact uU e (by omega)
  have hst := Dz (P := P) (β := β) (el := el') (Builtin.zeroCells z.cells len).toList w (lo * e) 0 arr g5 (by simp [n3]; omega) (Ba.ones n2 (by rw [n3, hl2]))
  rw [zB6] at hst
  refine ⟨_, _, G, hrun _ (fun _ => ⟨_, rfl, hst⟩) (fun h => (hz0 h).elim), ?_, fun d' hd' => fin d' hd' _⟩
  exact hs.setB (b := b) (k0 := .vec e rows) hb rfl rfl (.inl g1) (N6 hat.2.1 hat.2.2 g1 g2 g3 g6 g7 n2 (by rw [n3, hl2]) (by rw [hl2]; exact h3)) (fun c hc => by cases hc)
end run
theorem TT {st : St} (s b e : Nat) (rows : List (List T)) (hs0 : st.env s = some (.e (.one (.own b)))) (hb : st.bx b = some (.vec e rows)) : GM P X st (St.put st (some s) (some (.e (.one (.view b e 0 rows.length))))) := by
 rintro a w ⟨G, h⟩
 obtain ⟨a0, cap, k1, k2, k3⟩ := LP (h.blk b _ hb)
 obtain ⟨hR, _⟩ : Fv P w G (Au a.tmps s) (.own b) := h.env s _ hs0
 refine ⟨G, { h with env := ?_, live := ?_, blk := h.blk, at_ok := h.at_ok, at_inj := h.at_inj, liveB := h.liveB, nlt := h.nlt, lent := h.lent }⟩
 ·intro t d ht
  simp only [St.put] at ht
  split at ht
  ·rename_i e2; cases ht
   rw [e2]
   exact ⟨a0, rows.length, cap, a0, k1, by omega, by rw [hR, k1]; rfl, fun _ => by cases a0 <;> simp [MW]⟩
  ·exact h.env t d ht
 ·intro t d ht c hc
  simp only [St.put] at ht
  split at ht
  ·cases ht
   simp [D.names, E.names, C.names] at hc
   subst hc
   show (st.bx c).isSome = true
   rw [hb]; rfl
  ·exact h.live t d ht c hc
theorem Vj {st : St} (s b n e len : Nat) (rows : List (List T)) (hs0 : st.env s = some (.e (.one (.view b e 0 len)))) (hb : st.bx b = some (.vec e rows)) (hn : st.bx n = none) (hlb : BZ b = false) (hln : BZ n = false) (hle : len ≤ rows.length) :
  GM P X st (St.put ⟨st.env, Be st.bx [(n, .vec e (rows.take len)), (b, .gone)]⟩ (some s) (some (.e (.one (.own n))))) := by
 rintro a w ⟨G, h⟩
 have hnb : n ≠ b := fun e => by rw [e, hb] at hn; cases hn
 obtain ⟨a0, n1, cap, p, k1, k2, k3, k4⟩ : Fv P w G (Au a.tmps s) (.view b e 0 len) := h.env s _ hs0
 obtain ⟨a1, cap1, g1, g2, g3⟩ := LP (h.blk b _ hb)
 rw [g1] at k1; cases k1
 -- the new ghost
 have hlen : (rows.take len).length = len := by rw [List.length_take]; exact Nat.min_eq_left hle
 have hbx : ∀ c, Be st.bx [(n, BP.vec e (rows.take len)), (b, .gone)] c = if c = n then some (.vec e (rows.take len)) else if c = b then some .gone else st.bx c := fun c => rfl
 have hext : ∀ l v, G.ext (G.set n l v) (fun c => (st.bx c).isSome = true) := fun l v => Gh.set_ext _ _ _ _ (by simp [hn])
 have key : ∃ l v, Au a.tmps s = v ∧ (∃ q m c, v = .slice q m c) ∧ (∀ β, l = some β → G.loc b = some β) ∧ Fg P w (G.set n l v) n (.vec e (rows.take len)) := by
  by_cases hc : 0 < cap
  ·obtain ⟨β, arr, el, q1, q2, q3, q4, q5⟩ := g3 hc
   subst q1
   refine ⟨some β, .slice (some ⟨β, 0, none⟩) len cap, ?_, ⟨_, _, _, rfl⟩, fun γ hγ => by cases hγ; exact q2, ?_⟩
   ·rw [k3, k4 hc]; simp [Addr.add_mk]
   ·refine .inr ⟨β, cap, arr, el, by simp [Gh.set], by simp [Gh.set, hlen], q3, by rw [hlen]; omega, q4, fun i row hi => (q5.take (n := len)).2.1 i row hi, fun i row j t hi hj => ?_⟩
    have := (q5.take (n := len)).2.2 i row j t hi hj
    rw [uT] at this
    exact this
  ·have hr0 : rows.length = 0 := by omega
   have hl0 : len = 0 := by omega
   have hc0 : cap = 0 := by omega
   refine ⟨none, .slice p 0 0, by rw [k3, hl0, hc0], ⟨_, _, _, rfl⟩, fun γ hγ => (by cases hγ), .inl ⟨p, by simp [Gh.set], by rw [hl0, List.take_zero], by simp [Gh.set]⟩⟩
 obtain ⟨l, v, hv1, hv2, hl, hblk⟩ := key
 have h1 : DP P X (G.set n l v) ⟨st.env, Be st.bx [(n, .vec e (rows.take len)), (b, .gone)]⟩ a w := by
  refine h.frame ?_ (hext l v) (fun _ _ => rfl) ?_ ?_ ?_ h.S_lt h.S_src h.below (Gh.set_lent _ _ hln)
  ·intro c hc; rw [hbx]; split
   ·rfl
   ·split
    ·rfl
    ·exact hc
  ·intro c k hc
   rw [hbx] at hc
   split at hc
   ·rename_i e2; subst e2; cases hc
    exact .inr ⟨hblk, fun c hc => by cases hc⟩
   ·split at hc
    ·cases hc; exact .inr ⟨trivial, fun c hc => by cases hc⟩
    ·exact .inl ⟨hc, fun _ _ _ => rfl⟩
  ·intro c k β hc hr hβ
   rw [hbx] at hc
   rw [Gh.set_has] at hβ
   split at hc
   ·rename_i e2; rw [if_pos e2] at hβ
    have h5 := h.at_ok b _ β hb rfl (.inl (hl β hβ))
    exact ⟨.new (h5.1.1 hlb), h5.2⟩
   ·rename_i e2; rw [if_neg e2] at hβ
    split at hc
    ·cases hc; cases hr
    ·exact h.at_ok c k β hc hr hβ
  ·intro c c' k k' β hc hc' hr hr' hβ hβ'
   rw [hbx] at hc hc'
   rw [Gh.set_has] at hβ hβ'
   have old : ∀ c k, (if c = n then some (BP.vec e (rows.take len)) else if c = b then some .gone else st.bx c) = some k → k.real = true → (if c = n then l = some β else G.has c β) → (c = n ∧ G.has b β) ∨ (c ≠ n ∧ c ≠ b ∧ st.bx c = some k ∧ G.has c β) := by
    intro c k hc hr hβ
    split at hc
    ·rename_i e2; rw [if_pos e2] at hβ; exact .inl ⟨e2, .inl (hl β hβ)⟩
    ·rename_i e2; rw [if_neg e2] at hβ
     split at hc
     ·cases hc; cases hr
     ·rename_i e3; exact .inr ⟨e2, e3, hc, hβ⟩
   rcases old c k hc hr hβ with ⟨h2, h3⟩ | ⟨h2, h3, h4, h5⟩ <;> rcases old c' k' hc' hr' hβ' with ⟨h2', h3'⟩ | ⟨h2', h3', h4', h5'⟩
   ·rw [h2, h2']
   ·exact (h3' (h.at_inj c' b _ _ β h4' hb hr' rfl h5' h3)).elim
   ·exact (h3 (h.at_inj c b _ _ β h4 hb hr rfl h5 h3')).elim
   ·exact h.at_inj c c' k k' β h4 h4' hr hr' h5 h5'
 refine ⟨G.set n l v, { h1 with env := ?_, live := ?_, blk := h1.blk, at_ok := h1.at_ok, at_inj := h1.at_inj, liveB := h1.liveB, nlt := h1.nlt, lent := h1.lent }⟩
 ·intro t d ht
  simp only [St.put] at ht
  split at ht
  ·rename_i e2; cases ht
   rw [e2, hv1]
   exact ⟨by simp [Gh.set], hv2⟩
  ·exact h1.env t d ht
 ·intro t d ht c hc
  simp only [St.put] at ht
  split at ht
  ·cases ht
   simp [D.names, E.names, C.names] at hc
   subst hc
   show (Be st.bx [(c, .vec e (rows.take len)), (b, .gone)] c).isSome = true
   simp [Be]
  ·exact h1.live t d ht c hc
end Go.Lift
namespace Go.Lift
open Go.RowKit
variable {P : Program} {X : Io} {ops : Array Oper}
def Uq (a b : Int) : Int := if b < a then b else a
def Ua (a b : Int) : Int := if b > a then b else a
def Xd (b : ByteArray) (i : Int) : Option Int := if 0 ≤ i then (b[i.toNat]?).map fun x => (x.toNat : Int) else none
theorem T4 {β : Type} {b : ByteArray} {i : Int} {f : Int → Option β} {r : β} (h : (Xd b i).bind f = some r) : ∃ x : UInt8, 0 ≤ i ∧ b[i.toNat]? = some x ∧ f (x.toNat : Int) = some r := by
 obtain ⟨x, h1, h2⟩ := bind_some h
 unfold Xd at h1
 split at h1
 ·rename_i h0
  cases hx : b[i.toNat]? with
  | none => rw [hx] at h1; cases h1
  | some y => rw [hx] at h1; cases h1; exact ⟨y, h0, rfl, h2⟩
 ·cases h1
def Jy (xs : List Int) : ByteArray := xs.foldl (fun s n => s.push (UInt8.ofNat n.toNat)) ByteArray.empty
section run
variable {dr : Bool} {Q : St → Prop} {r i : Nat} {st : St} {log : List (Nat × CV)} {o : Oper} {gs : List (Operand × D)}
theorem Zz {x y : Operand} {t t2 s : Nat} {k k2 : IntKind} {a0 b0 : Int} (hat : At st.env ops i X.n (.call ⟨.builtin .min, #[x, y], #[t, t2]⟩) s gs)
  (hx : opd st.env x = some (vD (.int k a0))) (hy : opd st.env y = some (vD (.int k2 b0)))
  (next : Bd P X ops dr Q r (i + 1) (CV.upd ⟨gs ++ [(x, vD (.int k a0)), (y, vD (.int k2 b0))], [], some s, some (vD (.int k (Uq a0 b0))), [], []⟩ st) ((i, ⟨gs ++ [(x, vD (.int k a0)), (y, vD (.int k2 b0))], [], some s, some (vD (.int k (Uq a0 b0))), [], []⟩) :: log)) : Bd P X ops dr Q (r + 1) i st log := by
 obtain ⟨o, ho, hop, hd, hn, hg, hgp⟩ := hat.out
 refine Bd.step next ⟨Am.2 ⟨hgp, hx, hy, trivial⟩, trivial, trivial⟩ (LR.value ho hg rfl hd.symm (DW hd hn) ?_)
 intro G st a w hs hpre
 obtain ⟨hx, hy, _⟩ := (Am.1 hpre.r).2
 have h1 : a.eval x = .int k a0 := EJ (hs.opd hx : D3 w G.S (a.eval x) (.val _))
 have h2 : a.eval y = .int k2 b0 := EJ (hs.opd hy : D3 w G.S (a.eval y) (.val _))
 refine ⟨.int k (Uq a0 b0), w, G, ?_, hs, ?_⟩
 ·simp only [execOp, hop]
  refine F8 fun cs => ?_
  simp only [zD3, zA1, zE7, builtin, h1, h2]
  rfl
 ·rintro d ⟨⟩
  exact ⟨.val _ rfl, fun b hb => by cases hb⟩
theorem Y5 {x y : Operand} {t t2 s : Nat} {k k2 : IntKind} {a0 b0 : Int} (hat : At st.env ops i X.n (.call ⟨.builtin .max, #[x, y], #[t, t2]⟩) s gs)
  (hx : opd st.env x = some (vD (.int k a0))) (hy : opd st.env y = some (vD (.int k2 b0)))
  (next : Bd P X ops dr Q r (i + 1) (CV.upd ⟨gs ++ [(x, vD (.int k a0)), (y, vD (.int k2 b0))], [], some s, some (vD (.int k (Ua a0 b0))), [], []⟩ st) ((i, ⟨gs ++ [(x, vD (.int k a0)), (y, vD (.int k2 b0))], [], some s, some (vD (.int k (Ua a0 b0))), [], []⟩) :: log)) : Bd P X ops dr Q (r + 1) i st log := by
 obtain ⟨o, ho, hop, hd, hn, hg, hgp⟩ := hat.out
 refine Bd.step next ⟨Am.2 ⟨hgp, hx, hy, trivial⟩, trivial, trivial⟩ (LR.value ho hg rfl hd.symm (DW hd hn) ?_)
 intro G st a w hs hpre
 obtain ⟨hx, hy, _⟩ := (Am.1 hpre.r).2
 have h1 : a.eval x = .int k a0 := EJ (hs.opd hx : D3 w G.S (a.eval x) (.val _))
 have h2 : a.eval y = .int k2 b0 := EJ (hs.opd hy : D3 w G.S (a.eval y) (.val _))
 refine ⟨.int k (Ua a0 b0), w, G, ?_, hs, ?_⟩
 ·simp only [execOp, hop]
  refine F8 fun cs => ?_
  simp only [zD3, zA1, zE7, builtin, h1, h2]
  rfl
 ·rintro d ⟨⟩
  exact ⟨.val _ rfl, fun b hb => by cases hb⟩
theorem Sm {x : Operand} {s b k : Nat} (hat : At st.env ops i X.n (.nilCheck x) s gs) (hx : opd st.env x = some (.e (.one (.ptr b k))))
  (next : Bd P X ops dr Q r (i + 1) (CV.upd ⟨gs ++ [(x, .e (.one (.ptr b k)))], [], some s, some (.e (.one (.ptr b k))), [], []⟩ st) ((i, ⟨gs ++ [(x, .e (.one (.ptr b k)))], [], some s, some (.e (.one (.ptr b k))), [], []⟩) :: log)) : Bd P X ops dr Q (r + 1) i st log := by
 obtain ⟨o, ho, hop, hd, hn, hg, hgp⟩ := hat.out
 refine Bd.step next ⟨Am.2 ⟨hgp, hx, trivial⟩, trivial, trivial⟩ (LR.value ho hg rfl hd.symm (DW hd hn) ?_)
 intro G st a w hs hpre
 obtain ⟨hx, _⟩ := (Am.1 hpre.r).2
 obtain ⟨β, hβ, hv⟩ : Fv P w G (a.eval x) (.ptr b k) := hs.opd hx
 refine ⟨.pointer (some ⟨β, k, none⟩), w, G, ?_, hs, ?_⟩
 ·simp only [execOp, hop, hv]; rfl
 ·rintro d ⟨⟩
  exact ⟨⟨β, hβ, rfl⟩, fun b' hb' => hs.opd_live hx b' hb'⟩
theorem Rs {x : Operand} {b e ix k n s : Nat} {rows : List (List T)} {row us : List T} {t : TypeId} (hat : At st.env ops i X.n (.load t x) s gs)
  (hx : opd st.env x = some (.e (.one (.eptr b e ix k)))) (ht : Fp P t true = true) (hz : Hl P t n = true) (hb : st.bx b = some (.vec e rows)) (hrow : rows[ix]? = some row) (hc : (row.drop k).take n = us) (hl : us.length = n) (hn0 : 0 < n)
  (next : Bd P X ops dr Q r (i + 1) (CV.upd ⟨gs ++ [(x, .e (.one (.eptr b e ix k)))], [(b, .vec e rows)], some s, some (.e (.agg (us.map C.pure))), [], []⟩ st) ((i, ⟨gs ++ [(x, .e (.one (.eptr b e ix k)))], [(b, .vec e rows)], some s, some (.e (.agg (us.map C.pure))), [], []⟩) :: log)) : Bd P X ops dr Q (r + 1) i st log := by
 obtain ⟨o, ho, hop, hd, hn, hg, hgp⟩ := hat.out
 refine Bd.step next ⟨Am.2 ⟨hgp, hx, trivial⟩, ⟨hb, trivial⟩, trivial⟩ (LR.value ho hg rfl hd.symm (DW hd hn) ?_)
 intro G st a w hs hpre
 have hx := (Am.1 hpre.r).2.1
 have hb := hpre.b.1
 obtain ⟨β, hβ, hv⟩ : Fv P w G (a.eval x) (.eptr b e ix k) := hs.opd hx
 rcases hs.blk b _ hb with ⟨_, _, h0, _⟩ | ⟨β', cap, arr, el, h0, h1, h2, h3, h4, h5, h6⟩
 ·subst h0; simp at hrow
 rw [hβ] at h0; cases h0
 have hre := h5 ix row hrow
 have hix := AK hrow
 have hkn : k + n ≤ row.length := by
  have := congrArg zD6 hc
  simp at this; omega
 have hbnd : ix * e + e ≤ arr.size := by
  rw [h4, ← vZ]; exact uU e (by omega)
 have hbnd2 : ix * e + k + n ≤ arr.size := by omega
 refine ⟨.agg ((vK n).map fun j => Au arr (ix * e + k + j)).toArray, w, G, ?_, hs, ?_⟩
 ·simp only [execOp, hop, hv]
  exact Ai (Jz ht hz h2 hbnd2) rfl
 ·rintro d ⟨⟩
  refine ⟨LH hl fun j u hj => ?_, fun b hb => ?_⟩
  ·have hjn := AK hj
   rw [← hc, vX (by omega), zB0] at hj
   have := h6 ix row _ u hrow hj
   rwa [← zC9] at this
  ·have hb' : b ∈ Er (us.map C.pure) := hb
   rw [K7] at hb'; cases hb'
def PK (P : Program) (t : TypeId) : Bool := match P.underlying t with | some .string => true | _ => false
theorem Vc {x y : Operand} {t s : Nat} {b : ByteArray} {k : IntKind} {n : Int} {c : UInt8} (hat : At st.env ops i X.n (.index t x y) s gs)
  (hx : opd st.env x = some (vD (.string b))) (hy : opd st.env y = some (vD (.int k n))) (ht : PK P t = true) (h0 : 0 ≤ n) (hc : b[n.toNat]? = some c)
  (next : Bd P X ops dr Q r (i + 1) (CV.upd ⟨gs ++ [(x, vD (.string b)), (y, vD (.int k n))], [], some s, some (vD (.int .u8 (c.toNat : Int))), [], []⟩ st) ((i, ⟨gs ++ [(x, vD (.string b)), (y, vD (.int k n))], [], some s, some (vD (.int .u8 (c.toNat : Int))), [], []⟩) :: log)) : Bd P X ops dr Q (r + 1) i st log := by
 obtain ⟨o, ho, hop, hd, hn, hg, hgp⟩ := hat.out
 refine Bd.step next ⟨Am.2 ⟨hgp, hx, hy, trivial⟩, trivial, trivial⟩ (LR.value ho hg rfl hd.symm (DW hd hn) ?_)
 intro G st a w hs hpre
 obtain ⟨hx, hy, _⟩ := (Am.1 hpre.r).2
 have h1 : a.eval x = .string b := EJ (hs.opd hx : D3 w G.S (a.eval x) (.val _))
 have h2 : a.eval y = .int k n := EJ (hs.opd hy : D3 w G.S (a.eval y) (.val _))
 refine ⟨.int .u8 (c.toNat : Int), w, G, ?_, hs, ?_⟩
 ·simp only [execOp, hop, h1, h2]
  refine Ai (a := .int .u8 (c.toNat : Int)) (w1 := w) ?_ rfl
  unfold PK at ht
  split at ht
  ·rename_i hu
   unfold Instr.index
   refine Ai (a := (k, n)) (w1 := w) rfl ?_
   refine Ai (AI hu w) ?_
   simp only [h0, if_true, hc]
   rfl
  ·cases ht
 ·rintro d ⟨⟩
  exact ⟨.val _ rfl, fun b hb => by cases hb⟩
def Qi (P : Program) (s : TypeId) : Bool := match P.underlying s with | some (.slice e) => (match P.underlying e with | some (.int .u8) => true | _ => false) | _ => false
theorem PF {w : World} {a : Addr} {len cap : Nat} {xs : List Int} (h : (loadCells a len).run P w = .ok (xs.map fun n => Value.int .u8 n).toArray w) : (Conv.bytesToString (.slice (some a) len cap)).run P w = .ok (.string (Jy xs)) w := by
 unfold Conv.bytesToString
 refine Ai h ?_
 have key : ∀ (xs : List Int) (s : ByteArray), (forIn (m := Sem) (xs.map fun n => Value.int .u8 n) s (fun c r => (match c with
   | .int .u8 n => pure (ForInStep.yield (r.push (UInt8.ofNat n.toNat)))
   | _ => do stuck "bytesToString: byte expected" : Sem (ForInStep ByteArray)))).run P w = .ok (xs.foldl (fun s n => s.push (UInt8.ofNat n.toNat)) s) w := by
  intro xs
  induction xs with
  | nil => intro s; rfl
  | cons x xs ih =>
   intro s
   rw [zA1, List.forIn_cons]
   refine Ai (a := ForInStep.yield (s.push (UInt8.ofNat x.toNat))) (w1 := w) rfl ?_
   exact ih _
 have h2 := key xs ByteArray.empty
 rw [← List.forIn_toArray] at h2
 refine Ai (a := Jy xs) (w1 := w) ?_ rfl
 exact h2
theorem UV {x : Operand} {t t2 s : Nat} {d : D} {rb : List (Nat × BP)} {rows : List (List T)} (xs : List Int) (hat : At st.env ops i X.n (.convert t t2 x) s gs)
  (hx : opd st.env x = some d) (hS : NI d rb 1 rows) (hb : HK st.bx rb) (hr : rows = xs.map fun n => [T.val (.int .u8 n)]) (ht : Qi P t = true) (ht2 : PK P t2 = true)
  (next : Bd P X ops dr Q r (i + 1) (CV.upd ⟨gs ++ [(x, d)], rb, some s, some (vD (.string (Jy xs))), [], []⟩ st) ((i, ⟨gs ++ [(x, d)], rb, some s, some (vD (.string (Jy xs))), [], []⟩) :: log)) : Bd P X ops dr Q (r + 1) i st log := by
 obtain ⟨o, ho, hop, hd, hn, hg, hgp⟩ := hat.out
 refine Bd.step next ⟨Am.2 ⟨hgp, hx, trivial⟩, hb, trivial⟩ (LR.value ho hg rfl hd.symm (DW hd hn) ?_)
 intro G st a w hs hpre
 obtain ⟨hx, _⟩ := (Am.1 hpre.r).2
 have hb := hpre.b
 obtain ⟨p, cap, h1, h2⟩ := hs.srcW hx hS hb
 subst hr
 refine ⟨.string (Jy xs), w, G, ?_, hs, ?_⟩
 ·simp only [execOp, hop]
  refine Ai (a := .string (Jy xs)) (w1 := w) ?_ rfl
  unfold Qi at ht
  split at ht
  ·rename_i e hu
   split at ht
   ·rename_i hu2
    unfold PK at ht2
    split at ht2
    ·rename_i hu3
     unfold convert
     refine Ai (AI hu w) ?_
     refine Ai (AI hu3 w) ?_
     rw [h1]
     simp only [vT]
     refine Ai (AI hu2 w) ?_
     rcases h2 with h2 | ⟨β, off, arr, el, fz, h3, h4, h5⟩
     ·have hx0 : xs = [] := by simpa using h2
      subst hx0
      cases p with
      | none => rfl
      | some q => exact PF (xs := []) (by unfold loadCells loadCellsFrom; rfl)
     ·subst h3
      refine PF ?_
      have hsz : off + xs.length ≤ arr.size := by have := h5.1; simpa using this
      rw [Hj h4 hsz]
      congr 1
      apply congrArg List.toArray
      apply List.ext_getElem?
      intro j
      rw [vC, vC]
      by_cases hj : j < xs.length
      ·have hxj : xs[j]? = some xs[j] := by simp [hj]
       rw [List.getElem?_range hj, hxj]
       simp only [zC2, Option.some.injEq]
       have hrow : (xs.map fun n => [T.val (.int .u8 n)])[j]? = some [T.val (.int .u8 xs[j])] := by rw [vC, hxj]; rfl
       have := h5.2.2 j _ 0 _ hrow rfl
       rw [Nat.mul_one, zB6] at this
       exact EJ this
      ·rw [zC0 (by simp; omega), zC0 (by omega)]; rfl
    ·cases ht2
   ·cases ht
  ·cases ht
 ·rintro d ⟨⟩
  exact ⟨.val _ rfl, fun b hb => by cases hb⟩
end run
section maps
variable {K V : Type}
def KA [BEq K] (k : K) : List (K × V) → Option V
 | [] => none
 | p :: r => if k == p.1 then some p.2 else KA k r
def MN [BEq K] (k : K) (v : V) : List (K × V) → List (K × V)
 | [] => [(k, v)]
 | p :: r => if k == p.1 then (k, v) :: r else p :: MN k v r
def I6 (kv : K → Value) (vt : V → T) (m : List (K × V)) : List (Value × T) := m.map fun p => (kv p.1, vt p.2)
end maps
structure Q0 {K : Type} [BEq K] (P : Program) (t : TypeId) (kv : K → Value) : Prop where
 ty : ∃ kt el kd, P.underlying t = some (.map kt el) ∧ P.underlying kt = some kd ∧ (∀ a b : K, Instr.sameNow kd (kv a) (kv b) = some (a == b)) ∧ (∀ (e : Bool) (n : Nat) (v : K) (w : World), (Instr.checkKey e (n + 1) kt (kv v)).run P w = .ok () w)
 same : ∀ a b : K, (a == b) = true → Instr.sameBits 10000 (kv b) (kv a) = true
theorem K6 {K V : Type} [BEq K] {kd : TypeDesc} {kv : K → Value} (h : ∀ a b : K, Instr.sameNow kd (kv a) (kv b) = some (a == b)) (k : K) : ∀ (m : List (K × V)) (es : List MapEntry) (i : Nat), es.length = m.length → (∀ (j : Nat) (p : K × V), m[j]? = some p → ∃ e : MapEntry, es[j]? = some e ∧ e.key = kv p.1) →
  (KA k m = none ∧ Instr.findNow kd (kv k) es i = some none) ∨ ∃ j p e, m[j]? = some p ∧ es[j]? = some e ∧ (k == p.1) = true ∧ KA k m = some p.2 ∧ Instr.findNow kd (kv k) es i = some (some (i + j, e.val)) ∧ (∀ v, MN k v m = m.set j (k, v))
 | [], [], i, _, _ => .inl ⟨rfl, rfl⟩
 | p :: m, e :: es, i, hl, hp => by
  obtain ⟨e0, h0, h1⟩ := hp 0 p rfl
  simp at h0; subst h0
  have h2 := h k p.1
  by_cases hk : (k == p.1) = true
  ·refine .inr ⟨0, p, e, rfl, rfl, hk, ?_, ?_, fun v => ?_⟩
   ·simp only [KA, hk, if_true]
   ·simp only [Instr.findNow, h1, h2, hk]; rfl
   ·simp only [MN, hk, if_true]; rfl
  ·have hk' : (k == p.1) = false := by simpa using hk
   rcases K6 h k m es (i + 1) (by simpa using hl) (fun j q hq => hp (j + 1) q (by simpa using hq)) with ⟨g1, g2⟩ | ⟨j, q, e', g1, g2, g3, g4, g5, g6⟩
   ·refine .inl ⟨?_, ?_⟩
    ·simp only [KA, hk']; exact g1
    ·simp only [Instr.findNow, h1, h2, hk']; exact g2
   ·refine .inr ⟨j + 1, q, e', by simpa using g1, by simpa using g2, g3, ?_, ?_, fun v => ?_⟩
    ·simp only [KA, hk']; exact g4
    ·simp only [Instr.findNow, h1, h2, hk']; rw [g5]; simp [zC9, Nat.add_comm 1]
    ·simp only [MN, hk']; rw [g6 v]; rfl
theorem M7 {K V : Type} [BEq K] (k : K) (v : V) : ∀ {m : List (K × V)}, KA k m = none → MN k v m = m ++ [(k, v)]
 | [], _ => rfl
 | p :: m, h => by
  simp only [KA] at h
  split at h
  ·cases h
  ·rename_i hk
   simp only [MN]; rw [if_neg hk, M7 k v h]; rfl
section run
variable {dr : Bool} {Q : St → Prop} {r i : Nat} {st : St} {log : List (Nat × CV)} {o : Oper} {gs : List (Operand × D)}
theorem Uf {t s : Nat} (hat : At st.env ops i X.n (.makeMap t none) s gs) (hnew : st.bx s = none)
  (next : Bd P X ops dr Q r (i + 1) (CV.upd ⟨gs, [], some s, some (.e (.one (.mref s))), [(s, .mp [])], [s]⟩ st) ((i, ⟨gs, [], some s, some (.e (.one (.mref s))), [(s, .mp [])], [s]⟩) :: log)) : Bd P X ops dr Q (r + 1) i st log := by
 obtain ⟨o, ho, hop, hd, hn, hg, hgp⟩ := hat.out
 refine Bd.step next ⟨hgp, trivial, hnew, trivial⟩ (LR.value (rs := []) ho hg (by simp) hd.symm (DW hd hn) ?_)
 intro G st a w hs hpre
 have hnew := hpre.n.1
 have key := hs.newB (.map #[] 0) s (.mp []) undef (hs.nl hn) hnew
  ⟨w.heap.size, #[], 0, by simp [Gh.set], by rw [En, if_pos rfl], rfl, fun i x h => by simp at h⟩ (fun c hc => by cases hc)
 refine ⟨.map (some w.heap.size), _, _, ?_, key, ?_⟩
 ·simp only [execOp, hop]
  exact Ai (a := .map (some w.heap.size)) (w1 := w.alloc (.map #[] 0)) rfl rfl
 ·rintro d ⟨⟩
  refine ⟨⟨w.heap.size, by simp [Gh.set], rfl⟩, fun b hb => ?_⟩
  simp [D.names, E.names, C.names] at hb
  subst hb; simp [Be]
theorem DP.mpAt {G : Gh} {a : Act} {w : World} (hs : DP P X G st a w) {x : Operand} {b : Nat} {es : List (Value × T)} (hx : Lift.opd st.env x = some (.e (.one (.mref b)))) (hb : st.bx b = some (.mp es)) :
  ∃ β arr clock, a.eval x = .map (some β) ∧ G.loc b = some β ∧ w.heap[β]? = some (.map arr clock) ∧ arr.size = es.length ∧ ∀ (i : Nat) (y : Value × T), es[i]? = some y → ∃ m : MapEntry, arr[i]? = some m ∧ m.key = y.1 ∧ D3 w G.S m.val y.2 := by
 obtain ⟨β, hβ, hv⟩ : Fv P w G (a.eval x) (.mref b) := hs.opd hx
 obtain ⟨β', arr, clock, h1, h2, h3, h4⟩ := hs.blk b _ hb
 rw [hβ] at h1; cases h1
 exact ⟨β, arr, clock, hv, hβ, h2, h3, h4⟩
theorem Kk {β : Nat} {arr : Array MapEntry} {clock : Nat} {w : World} (h : w.heap[β]? = some (.map arr clock)) : (getObj β).run P w = .ok (.map arr clock) w := by
 simp [getObj, Sem.run, h]
theorem Ov {β : Nat} {arr : Array MapEntry} {clock : Nat} {o : Obj} {w : World} (h : w.heap[β]? = some (.map arr clock)) : (setObj β o).run P w = .ok () (DV w β o) := by
 simp [setObj, Sem.run, h, DV]
theorem JG {K _V : Type} [BEq K] {kt : TypeId} {kd : TypeDesc} {kv : K → Value} {k : K} {es : List MapEntry} {r : Option (Nat × Value)} {w : World} (hu : P.underlying kt = some kd) (h : Instr.findNow kd (kv k) es 0 = some r) : (Instr.findKey kt (kv k) es).run P w = .ok r w := by
 unfold Instr.findKey
 refine Ai (AI hu w) ?_
 rw [h]; rfl
inductive Tj (w : World) : Value → Array MapEntry → Prop where
 | nil : Tj w (.map none) #[]
 | here (β clock : Nat) (arr : Array MapEntry) (h : w.heap[β]? = some (.map arr clock)) : Tj w (.map (some β)) arr
theorem R9 {K V : Type} [BEq K] {t el : Nat} {c : Bool} {z x : Value} {kv : K → Value} {vt : V → T} {m : List (K × V)} {k : K} {dv v0 : V} {w : World} {S : Nat → Prop} {arr : Array MapEntry} (h3 : Tj w x arr) (h4 : arr.size = (I6 kv vt m).length)
  (h5 : ∀ (i : Nat) (y : Value × T), (I6 kv vt m)[i]? = some y → ∃ e : MapEntry, arr[i]? = some e ∧ e.key = y.1 ∧ D3 w S e.val y.2)
  (hk : Q0 P t kv) (hel : (match P.underlying t with | some (.map _ e) => e == el | _ => false) = true) (hz : EN P el = some z) (hzv : vt dv = .val z) (hz1 : Hd z = true) (hv0 : (KA k m).getD dv = v0) :
  ∃ v, (Instr.lookup t x (kv k) c).run P w = .ok (if c then .tuple #[v, .bool (KA k m).isSome] else v) w ∧ D3 w S v (vt v0) := by
 obtain ⟨kt, el', kd, u1, u2, u3, u4⟩ := hk.ty
 rw [u1] at hel
 have hel' : el' = el := by simpa using hel
 subst hel'
 have hes : ∀ (j : Nat) (p : K × V), m[j]? = some p → ∃ e : MapEntry, arr.toList[j]? = some e ∧ e.key = kv p.1 ∧ D3 w S e.val (vt p.2) := fun j p hp => by
  obtain ⟨e, e1, e2, e3⟩ := h5 j (kv p.1, vt p.2) (by unfold I6; rw [vC, hp]; rfl)
  exact ⟨e, by simpa using e1, e2, e3⟩
 rcases K6 (V := V) u3 k m arr.toList 0 (by simp [h4, I6]) (fun j p hp => by obtain ⟨e, e1, e2, _⟩ := hes j p hp; exact ⟨e, e1, e2⟩) with ⟨g1, g2⟩ | ⟨j, q, e, g1, g2, g3, g4, g5, _⟩
 ·refine ⟨z, ?_, ?_⟩
  ·rw [g1]
   unfold Instr.lookup
   refine Ai (AI u1 w) ?_
   cases h3
   case' here h3 => refine Ai (Kk h3) ?_
   all_goals refine Ai (a := _) (w1 := w) rfl ?_
   all_goals refine Ai (u4 _ _ _ _) ?_
   all_goals refine Ai (JG (_V := V) u2 g2) ?_
   all_goals refine Ai (Fc hz w) ?_
   all_goals exact Ai (a := (z, false)) (w1 := w) rfl rfl
  ·rw [← hv0, g1, Option.getD_none, hzv]; exact .val _ hz1
 ·refine ⟨e.val, ?_, ?_⟩
  ·rw [g4]
   unfold Instr.lookup
   refine Ai (AI u1 w) ?_
   cases h3 with
   | nil => cases g2
   | here β clock _ h3 =>
    refine Ai (Kk h3) ?_
    refine Ai (a := arr) (w1 := w) rfl ?_
    refine Ai (u4 _ _ _ _) ?_
    refine Ai (JG (_V := V) u2 g5) ?_
    exact Ai (a := (e.val, true)) (w1 := w) rfl rfl
  ·obtain ⟨e', e1, _, e3⟩ := hes j q g1
   rw [g2] at e1; cases e1
   rw [← hv0, g4]; exact e3
inductive Z7 : D → List (Value × T) → List (Nat × BP) → Prop where
 | ref (b : Nat) (es : List (Value × T)) : Z7 (.e (.one (.mref b))) es [(b, .mp es)]
 | tree (es : List (Value × T)) : Z7 (one (.mp es)) es []
theorem DP.mpAtD {G : Gh} {a : Act} {w : World} (hs : DP P X G st a w) {x : Operand} {d : D} {es : List (Value × T)} {bs : List (Nat × BP)} (hm : Z7 d es bs) (hx : Lift.opd st.env x = some d) (hb : HK st.bx bs) :
  ∃ arr, Tj w (a.eval x) arr ∧ arr.size = es.length ∧ ∀ (i : Nat) (y : Value × T), es[i]? = some y → ∃ m : MapEntry, arr[i]? = some m ∧ m.key = y.1 ∧ D3 w G.S m.val y.2 := by
 cases hm with
 | ref b =>
  obtain ⟨β, arr, clock, h1, h2, h3, h4, h5⟩ := hs.mpAt hx hb.1
  exact ⟨arr, by rw [h1]; exact .here β clock arr h3, h4, h5⟩
 | tree =>
  have h : D3 w G.S (a.eval x) (.mp es) := hs.opd hx
  generalize a.eval x = v at h
  cases h with
  | mp β clock arr _ h1 h2 h3 h4 h5 =>
   refine ⟨arr, .here β clock arr h2, h3, fun i y hy => ?_⟩
   have hlt : i < arr.size := by rw [h3]; exact AK hy
   exact ⟨arr[i], by simp [hlt], h4 i y _ hy (by simp [hlt]), h5 i y _ hy (by simp [hlt])⟩
  | mp0 => exact ⟨#[], .nil, rfl, fun i y hy => by simp at hy⟩
theorem TP {K V : Type} [BEq K] {t s el : Nat} {x y : Operand} {c : Bool} {z : Value} {kv : K → Value} {vt : V → T} {m : List (K × V)} {k : K} {dv v0 : V} {dx : D} {bs : List (Nat × BP)} (hmd : Z7 dx (I6 kv vt m) bs) (hat : At st.env ops i X.n (.lookup t x y c) s gs)
  (hx : opd st.env x = some dx) (hy : opd st.env y = some (vD (kv k))) (hb : HK st.bx bs) (hk : Q0 P t kv) (hel : (match P.underlying t with | some (.map _ e) => e == el | _ => false) = true) (hz : EN P el = some z) (hzv : vt dv = .val z) (hz1 : Hd z = true) (hv0 : (KA k m).getD dv = v0)
  (next : Bd P X ops dr Q r (i + 1) (CV.upd ⟨gs ++ [(x, dx), (y, vD (kv k))], bs, some s, some (if c then .tup [.one (.pure (vt v0)), .one (.pure (.val (.bool (KA k m).isSome)))] else one (vt v0)), [], []⟩ st) ((i, ⟨gs ++ [(x, dx), (y, vD (kv k))], bs, some s, some (if c then .tup [.one (.pure (vt v0)), .one (.pure (.val (.bool (KA k m).isSome)))] else one (vt v0)), [], []⟩) :: log)) : Bd P X ops dr Q (r + 1) i st log := by
 obtain ⟨o, ho, hop, hd, hn, hg, hgp⟩ := hat.out
 refine Bd.step next ⟨Am.2 ⟨hgp, hx, hy, trivial⟩, hb, trivial⟩ (LR.value ho hg rfl hd.symm (DW hd hn) ?_)
 intro G st a w hs hpre
 obtain ⟨hx, hy, _⟩ := (Am.1 hpre.r).2
 obtain ⟨arr, h3, h4, h5⟩ := hs.mpAtD hmd hx hpre.b
 have hY : a.eval y = kv k := EJ (hs.opd hy : D3 w G.S (a.eval y) (.val _))
 obtain ⟨v, hv1, hv2⟩ := R9 (c := c) h3 h4 h5 hk hel hz hzv hz1 hv0
 refine ⟨(if c then .tuple #[v, .bool (KA k m).isSome] else v), w, G, ?_, hs, ?_⟩
 ·simp only [execOp, hop, hY]
  exact Ai hv1 rfl
 ·rintro d hd'
  cases c with
  | false => cases hd'; exact ⟨hv2, fun b hb => by cases hb⟩
  | true =>
   cases hd'
   refine ⟨⟨_, rfl, rfl, fun j x hj => ?_⟩, fun b hb => by simp [D.names, JS, E.names, C.names] at hb⟩
   match j, hj with
   | 0, hj => cases hj; exact hv2
   | 1, hj => cases hj; exact .val _ rfl
theorem Vl {K V : Type} [BEq K] {t s b el : Nat} {x y : Operand} {c : Bool} {z : Value} {kv : K → Value} {vt : V → T} {m : List (K × V)} {k : K} {dv v0 : V} (hat : At st.env ops i X.n (.lookup t x y c) s gs)
  (hx : opd st.env x = some (.e (.one (.mref b)))) (hy : opd st.env y = some (vD (kv k))) (hb : st.bx b = some (.mp (I6 kv vt m))) (hk : Q0 P t kv) (hel : (match P.underlying t with | some (.map _ e) => e == el | _ => false) = true) (hz : EN P el = some z) (hzv : vt dv = .val z) (hz1 : Hd z = true) (hv0 : (KA k m).getD dv = v0)
  (next : Bd P X ops dr Q r (i + 1) (CV.upd ⟨gs ++ [(x, .e (.one (.mref b))), (y, vD (kv k))], [(b, .mp (I6 kv vt m))], some s, some (if c then .tup [.one (.pure (vt v0)), .one (.pure (.val (.bool (KA k m).isSome)))] else one (vt v0)), [], []⟩ st) ((i, ⟨gs ++ [(x, .e (.one (.mref b))), (y, vD (kv k))], [(b, .mp (I6 kv vt m))], some s, some (if c then .tup [.one (.pure (vt v0)), .one (.pure (.val (.bool (KA k m).isSome)))] else one (vt v0)), [], []⟩) :: log)) : Bd P X ops dr Q (r + 1) i st log :=
 TP (.ref b _) hat hx hy ⟨hb, trivial⟩ hk hel hz hzv hz1 hv0 next
theorem Rw {K V : Type} [BEq K] {t b : Nat} {x y u : Operand} {kv : K → Value} {vt : V → T} {m m' : List (K × V)} {k : K} {v : V} {op : Op} (hat : Q2 ops i = some op) (hop' : op = .mapUpdate t x y u ∨ op = .insert t x y u)
  (hx : opd st.env x = some (.e (.one (.mref b)))) (hy : opd st.env y = some (vD (kv k))) (hu : opd st.env u = some (one (vt v))) (hb : st.bx b = some (.mp (I6 kv vt m))) (hk : Q0 P t kv) (hm : MN k v m = m')
  (next : Bd P X ops dr Q r (i + 1) (CV.upd ⟨[(x, .e (.one (.mref b))), (y, vD (kv k)), (u, one (vt v))], [(b, .mp (I6 kv vt m))], none, none, [(b, .mp (I6 kv vt m'))], []⟩ st) ((i, ⟨[(x, .e (.one (.mref b))), (y, vD (kv k)), (u, one (vt v))], [(b, .mp (I6 kv vt m))], none, none, [(b, .mp (I6 kv vt m'))], []⟩) :: log)) : Bd P X ops dr Q (r + 1) i st log := by
 obtain ⟨o, ho, hop, hd, hgn⟩ := NP hat
 have hg : UJ ops o [] := .none hgn
 refine Bd.step next ⟨⟨hx, hy, hu, trivial⟩, ⟨hb, trivial⟩, trivial⟩ (LR.skip (rs := [(x, .e (.one (.mref b))), (y, vD (kv k)), (u, one (vt v))]) ho hg rfl hd rfl ?_)
 intro G st a w hs hpre
 obtain ⟨hx, hy, hu, _⟩ := hpre.r
 have hb := hpre.b.1
 subst hm
 obtain ⟨β, arr, clock, h1, h2, h3, h4, h5⟩ := hs.mpAt hx hb
 have hY : a.eval y = kv k := EJ (hs.opd hy : D3 w G.S (a.eval y) (.val _))
 have hU : D3 w G.S (a.eval u) (vt v) := hs.opd hu
 obtain ⟨kt, el', kd, u1, u2, u3, u4⟩ := hk.ty
 have hes : ∀ (j : Nat) (p : K × V), m[j]? = some p → ∃ e : MapEntry, arr.toList[j]? = some e ∧ e.key = kv p.1 ∧ D3 w G.S e.val (vt p.2) := fun j p hp => by
  obtain ⟨e, e1, e2, e3⟩ := h5 j (kv p.1, vt p.2) (by unfold I6; rw [vC, hp]; rfl)
  exact ⟨e, by simpa using e1, e2, e3⟩
 have hat := hs.at_ok b _ β hb rfl (.inl h2)
 have hml : arr.size = m.length := by rw [h4]; simp [I6]
 have fin : ∀ arr' clock', arr'.size = (MN k v m).length → (∀ (j : Nat) (p : K × V), (MN k v m)[j]? = some p → ∃ e : MapEntry, arr'[j]? = some e ∧ e.key = kv p.1 ∧ D3 w G.S e.val (vt p.2)) →
   DP P X G ⟨st.env, Be st.bx [(b, .mp (I6 kv vt (MN k v m)))]⟩ a (DV w β (.map arr' clock')) := by
  intro arr' clock' k1 k2
  have hS : ∀ γ, G.S γ → (DV w β (.map arr' clock')).heap[γ]? = w.heap[γ]? := fun γ hγ => by
   rw [CU, if_neg (fun (h : γ = β ∧ β < w.heap.size) => hat.2.2 (h.1 ▸ hγ))]
  refine hs.setB (b := b) (k0 := .mp (I6 kv vt m)) hb rfl rfl (.inl h2) ⟨β, arr', clock', h2, by rw [CU, if_pos ⟨rfl, hat.2.1⟩], by rw [k1]; simp [I6], fun j y hy => ?_⟩ (fun c hc => by cases hc)
  unfold I6 at hy
  rw [vC] at hy
  cases hp : (MN k v m)[j]? with
  | none => rw [hp] at hy; cases hy
  | some p =>
   rw [hp] at hy; cases hy
   obtain ⟨e, e1, e2, e3⟩ := k2 j p hp
   exact ⟨e, e1, e2, e3.mono hS fun _ h => h⟩
 have hrun : ∀ w', (Instr.mapUpdate t (.map (some β)) (kv k) (a.eval u)).run P w = .ok () w' → (execOp a.eval o).run P w = .ok .skip w' := fun w' h => by
  rcases hop' with e | e
  ·simp only [execOp, hop, e, h1, hY]; exact Ai h rfl
  ·simp only [execOp, hop, e, h1, hY]; exact Ai h rfl
 rcases K6 (V := V) u3 k m arr.toList 0 (by simp [hml]) (fun j p hp => by obtain ⟨e, e1, e2, _⟩ := hes j p hp; exact ⟨e, e1, e2⟩) with ⟨g1, g2⟩ | ⟨j, q, e, g1, g2, g3, g4, g5, g6⟩
 ·refine ⟨_, G, hrun _ ?_, fin (arr.push { key := kv k, val := a.eval u, born := clock }) (clock + 1) ?_ ?_⟩
  ·unfold Instr.mapUpdate
   refine Ai (AI u1 w) ?_
   refine Ai (Kk h3) ?_
   refine Ai (u4 _ _ _ _) ?_
   refine Ai (JG (_V := V) u2 g2) ?_
   exact Ov h3
  ·rw [M7 k v g1]; simp [hml]
  ·intro j p hp
   rw [M7 k v g1] at hp
   by_cases hj : j < m.length
   ·rw [zA0 hj] at hp
    obtain ⟨e, e1, e2, e3⟩ := hes j p hp
    refine ⟨e, ?_, e2, e3⟩
    rw [Array.getElem?_push, if_neg (by omega)]
    simpa using e1
   ·rw [zA3 (by omega)] at hp
    have hj0 : j - m.length = 0 := by have := AK hp; simp at this; omega
    rw [hj0] at hp; cases hp
    exact ⟨{ key := kv k, val := a.eval u, born := clock }, by rw [Array.getElem?_push, if_pos (by omega)], rfl, hU⟩
 ·have hjm := AK g1
  have hje : arr[j]? = some e := by simpa using g2
  have hek : e.key = kv q.1 := by obtain ⟨e', e1, e2, _⟩ := hes j q g1; rw [g2] at e1; cases e1; exact e2
  refine ⟨_, G, hrun _ ?_, fin (arr.modify j fun e => { e with key := kv k, val := a.eval u }) clock ?_ ?_⟩
  ·unfold Instr.mapUpdate
   refine Ai (AI u1 w) ?_
   refine Ai (Kk h3) ?_
   refine Ai (u4 _ _ _ _) ?_
   refine Ai (JG (_V := V) u2 g5) ?_
   simp only [uT]
   refine Ai (a := kv k) (w1 := w) ?_ (Ov h3)
   rw [hje]
   simp only [zC2, vW]
   unfold Instr.keyThatStays
   rw [hek, hk.same k q.1 g3]; rfl
  ·rw [g6 v]; simp [hml]
  ·intro j' p hp
   rw [g6 v] at hp
   rw [zG7]
   rcases NK hp with ⟨rfl, rfl⟩ | ⟨hne, hp⟩
   ·rw [if_pos rfl, hje]
    exact ⟨_, rfl, rfl, hU⟩
   ·rw [if_neg (fun h => hne h.symm)]
    obtain ⟨e', e1, e2, e3⟩ := hes j' p hp
    exact ⟨e', by simpa using e1, e2, e3⟩
end run
end Go.Lift
namespace Go.Lift
open Go.RowKit
variable {P : Program} {X : Io} {ops : Array Oper}
section run
variable {dr : Bool} {Q : St → Prop} {r i : Nat} {st : St} {log : List (Nat × CV)} {o : Oper} {gs : List (Operand × D)}
def vl : BP → Option (Nat × Nat)
 | .vec e rows => some (e, rows.length)
 | .dvec e _ rows => some (e, rows.length)
 | .pvec _ e _ rows => some (e, rows.length)
 | .hol e _ _ _ _ rows => some (e, rows.length)
 | _ => none
def bJ : Ow → Bool
 | .s => true
 | _ => false
end run
def inner (e : Nat) (cols : List Ow) (rows : List (List T)) : BP := if cols.all bJ then .vec e rows else .dvec e cols rows
section run
variable {dr : Bool} {Q : St → Prop} {r i : Nat} {st : St} {log : List (Nat × CV)} {o : Oper} {gs : List (Operand × D)}
end run
end Go.Lift
namespace Go.Lift
open Go.RowKit
variable {P : Program} {X : Io} {ops : Array Oper}
section run
variable {dr : Bool} {Q : St → Prop} {r i : Nat} {st : St} {log : List (Nat × CV)} {o : Oper} {gs : List (Operand × D)}
structure Pu (w : World) (S : Nat → Prop) (e : Nat) (cols : List Ow) (rows : List (List T)) (Rf : Nat → Nat → Nat → Prop) (f : Nat → Value) : Prop where
 len : ∀ (i : Nat) (row : List T), rows[i]? = some row → row.length = e
 cell : ∀ (i : Nat) (row : List T) (j : Nat) (t : T), rows[i]? = some row → row[j]? = some t → Sq w S (cols.getD j .s) (Rf i j) (f (i * e + j)) t
 dis : ∀ i j i' j' γ, Rf i j γ → Rf i' j' γ → i = i' ∧ j = j'
theorem Pu.ones {w : World} {S : Nat → Prop} {e : Nat} {cols : List Ow} {rows : List (List T)} {Rf : Nat → Nat → Nat → Prop} {arr : Array Value} (h : Pu w S e cols rows Rf (Au arr)) (hs : arr.size = rows.length * e) : ∀ u, u ∈ arr.toList → Hd u = true := by
 intro u hu
 obtain ⟨k, hk⟩ := vO.1 hu
 have hk' : arr[k]? = some u := by simpa using hk
 have hlt : k < arr.size := by
  rcases zA7 k arr.size with h' | h'
  ·exact h'
  ·rw [zA8 h'] at hk'; cases hk'
 rcases Nat.eq_zero_or_pos e with e0 | e0
 ·rw [e0, Nat.mul_zero] at hs; omega
 have h1 : k / e < rows.length := (Nat.div_lt_iff_lt_mul e0).2 (by omega)
 have h2 : k % e < e := Nat.mod_lt _ e0
 have hrow : rows[k / e]? = some rows[k / e] := by simp [h1]
 have hlen := h.len _ _ hrow
 have hcell : (rows[k / e])[k % e]? = some ((rows[k / e])[k % e]'(by omega)) := by simp [show k % e < rows[k / e].length from by omega]
 have := (h.cell _ _ _ _ hrow hcell).one
 rw [show k / e * e + k % e = k from by rw [Nat.mul_comm]; exact Nat.div_add_mod k e] at this
 simpa [Au, hk'] using this
theorem Pu.app {w w' : World} {S : Nat → Prop} {e : Nat} {cols : List Ow} {rows rows2 : List (List T)} {Rf Rf2 : Nat → Nat → Nat → Prop} {f f2 g : Nat → Value} (h1 : Pu w S e cols rows Rf f) (h2 : Pu w S e cols rows2 Rf2 f2)
  (hx : ∀ i j i' j' γ, Rf i j γ → Rf2 i' j' γ → False) (hg1 : ∀ j, j < rows.length * e → g j = f j) (hg2 : ∀ j, j < rows2.length * e → g (rows.length * e + j) = f2 j)
  (hw : ∀ γ, S γ ∨ (∃ i j, Rf i j γ ∨ Rf2 i j γ) → w'.heap[γ]? = w.heap[γ]?) : Pu w' S e cols (rows ++ rows2) (fun i j γ => if i < rows.length then Rf i j γ else Rf2 (i - rows.length) j γ) g := by
 have hlen : ∀ (i : Nat) (row : List T), (rows ++ rows2)[i]? = some row → row.length = e := fun i row hi => by
  rcases zA7 i rows.length with h | h
  ·rw [zA0 h] at hi; exact h1.len i row hi
  ·rw [zA3 h] at hi; exact h2.len _ row hi
 refine ⟨hlen, fun i row j t hi hj => ?_, fun i j i' j' γ hγ hγ' => ?_⟩
 ·have hj' := AK hj
  have he := hlen i row hi
  rcases zA7 i rows.length with h | h
  ·rw [zA0 h] at hi
   have hle : i * e + e ≤ rows.length * e := by rw [← vZ]; exact uU e h
   rw [hg1 _ (by omega)]
   exact (h1.cell i row j t hi hj).mono (fun γ hγ => hw γ (hγ.imp id fun hr => ⟨i, j, .inl hr⟩)) (fun _ h => h) (fun γ hγ => by rw [if_pos h]; exact hγ)
  ·rw [zA3 h] at hi
   have hi2 := AK hi
   have hle : (i - rows.length) * e + e ≤ rows2.length * e := by rw [← vZ]; exact uU e hi2
   have hsplit : i * e + j = rows.length * e + ((i - rows.length) * e + j) := by
    rw [← zC9, ← vU, show rows.length + (i - rows.length) = i from by omega]
   rw [hsplit, hg2 _ (by omega)]
   exact (h2.cell _ row j t hi hj).mono (fun γ hγ => hw γ (hγ.imp id fun hr => ⟨_, j, .inr hr⟩)) (fun _ h => h) (fun γ hγ => by rw [if_neg (by omega)]; exact hγ)
 ·split at hγ <;> split at hγ'
  ·exact h1.dis i j i' j' γ hγ hγ'
  ·exact (hx _ _ _ _ γ hγ hγ').elim
  ·exact (hx _ _ _ _ γ hγ' hγ).elim
  ·have := h2.dis _ j _ j' γ hγ hγ'
   exact ⟨by omega, this.2⟩
end run
end Go.Lift
namespace Go.Lift
open Go.RowKit
variable {P : Program} {X : Io} {ops : Array Oper}
theorem G8 {α : Type} (f : α → List T) (b e : Nat) (xs : List α) : L3 (.e (.one (.own b))) b e (xs.map f) 0 xs.length := by
 have := L3.own b e (xs.map f)
 rwa [vT] at this
theorem IW {α : Type} (f : α → List T) (b e lo len : Nat) (xs : List α) (h : lo + len ≤ xs.length) : L3 (.e (.one (.view b e lo len))) b e (xs.map f) lo len := .view b e _ lo len (by simpa using h)
theorem P2 {α : Type} (f : α → List T) (b e lo len : Nat) (xs : List α) (h : lo + len ≤ xs.length) : NI (.e (.one (.view b e lo len))) [(b, .vec e (xs.map f))] e (((xs.drop lo).take len).map f) := by
 have := NI.view b e (xs.map f) lo len (by simpa using h)
 rwa [← List.map_drop, ← List.map_take] at this
theorem UK {α : Type} (f : α → List T) (b e : Nat) (xs : List α) : NI (.e (.one (.own b))) [(b, .vec e (xs.map f))] e (xs.map f) := .of (.own _ _ _)
theorem W7 {α : Type} (f : α → List T) (e : Nat) (xs : List α) (h : ∀ x, (f x).length = e) : NI (one (.sl (xs.map f))) [] e (xs.map f) := .of (.sl _ _ (MD h xs))
section run
variable {dr : Bool} {Q : St → Prop} {r i : Nat} {st : St} {log : List (Nat × CV)} {o : Oper} {gs : List (Operand × D)}
theorem Hb {α : Type} (f : α → List T) (xs : List α) {x : Operand} {t el s e l h b lo0 len lo1 len1 : Nat} {lo hi : Option Operand} {rl rh : List (Operand × D)} {d : D} (hat : At st.env ops i X.n (.slice t x lo hi none) s gs)
  (hx : opd st.env x = some d) (hD : L3 d b e (xs.map f) lo0 len) (hb : st.bx b = some (.vec e (xs.map f))) (ht : sliceB P t el = true) (he : Hl P el e = true) (hlo : Ui lo 0 l rl) (hhi : Ui hi len h rh) (h1 : FX st.env rl) (h2 : FX st.env rh) (hlh : l ≤ h) (hhl : lo0 + h ≤ xs.length) (e1 : lo0 + l = lo1) (e2 : h - l = len1)
  (next : Bd P X ops dr Q r (i + 1) (CV.upd ⟨gs ++ ((x, d) :: (rl ++ rh)), [(b, .vec e (xs.map f))], some s, some (.e (.one (.view b e lo1 len1))), [], []⟩ st) ((i, ⟨gs ++ ((x, d) :: (rl ++ rh)), [(b, .vec e (xs.map f))], some s, some (.e (.one (.view b e lo1 len1))), [], []⟩) :: log)) : Bd P X ops dr Q (r + 1) i st log := by
 subst e1; subst e2
 exact U7 hat hx hD hb ht he hlo hhi h1 h2 hlh (by simpa using hhl) next
theorem TJ {α : Type} (f : α → List T) (xs ys : List α) {x y : Operand} {t t2 el s e b lo len : Nat} {d d2 : D} {rb2 : List (Nat × BP)} (hat : At st.env ops i X.n (.call ⟨.builtin .copy, #[x, y], #[t, t2]⟩) s gs)
  (hx : opd st.env x = some d) (hD : L3 d b e (xs.map f) lo len) (hb : st.bx b = some (.vec e (xs.map f))) (hy : opd st.env y = some d2) (hS : NI d2 rb2 e (ys.map f)) (hb2 : HK st.bx rb2) (ht : sliceB P t el = true) (he : Hl P el e = true)
  (next : Bd P X ops dr Q r (i + 1) (CV.upd ⟨gs ++ [(x, d), (y, d2)], (b, .vec e (xs.map f)) :: rb2, some s, some (vD (.int .i64 ((zB4 ys.length len : Nat) : Int))), [(b, .vec e ((Gv xs lo (ys.take (zB4 ys.length len))).map f))], []⟩ st) ((i, ⟨gs ++ [(x, d), (y, d2)], (b, .vec e (xs.map f)) :: rb2, some s, some (vD (.int .i64 ((zB4 ys.length len : Nat) : Int))), [(b, .vec e ((Gv xs lo (ys.take (zB4 ys.length len))).map f))], []⟩) :: log)) : Bd P X ops dr Q (r + 1) i st log := by
 have hl : (ys.map f).length = ys.length := vT _
 refine XR hat hx hD hb hy hS hb2 ht he (rows' := (Gv xs lo (ys.take (zB4 ys.length len))).map f) ?_ ?_
 ·rw [hl, ← List.map_take, QG]
 ·rw [hl]; exact next
theorem SU {α : Type} (f : α → List T) (xs ys : List α) {x y : Operand} {t t2 el el2 s e b lo len len1 : Nat} {d d2 : D} {rb2 : List (Nat × BP)} (hat : At st.env ops i X.n (.call ⟨.builtin .append, #[x, y], #[t, t2]⟩) s gs)
  (hx : opd st.env x = some d) (hD : L3 d b e (xs.map f) lo len) (hb : st.bx b = some (.vec e (xs.map f))) (hy : opd st.env y = some d2) (hS : NI d2 rb2 e (ys.map f)) (hb2 : HK st.bx rb2)
  (ht : sliceB P t el = true) (ht2 : sliceB P t2 el2 = true) (he : Hl P el e = true) (hfit : lo + len + ys.length ≤ xs.length) (e1 : len + ys.length = len1)
  (next : Bd P X ops dr Q r (i + 1) (CV.upd ⟨gs ++ [(x, d), (y, d2)], (b, .vec e (xs.map f)) :: rb2, some s, some (.e (.one (.view b e lo len1))), [(b, .vec e ((Gv xs (lo + len) ys).map f))], []⟩ st) ((i, ⟨gs ++ [(x, d), (y, d2)], (b, .vec e (xs.map f)) :: rb2, some s, some (.e (.one (.view b e lo len1))), [(b, .vec e ((Gv xs (lo + len) ys).map f))], []⟩) :: log)) : Bd P X ops dr Q (r + 1) i st log := by
 subst e1
 have hl : (ys.map f).length = ys.length := vT _
 refine T3 hat hx hD hb hy hS hb2 ht ht2 he (by rw [hl]; simpa using hfit) (rows' := (Gv xs (lo + len) ys).map f) (QG _ _ _ _) ?_
 rw [hl]; exact next
theorem OH {α : Type} (f : α → List T) (xs : List α) (z0 : α) {x : Operand} {t el b e lo len : Nat} {z : Value} {zs : List Value} {d : D} (hop0 : Q2 ops i = some (.call ⟨.builtin .clear, #[x], #[t]⟩))
  (hx : opd st.env x = some d) (hD : L3 d b e (xs.map f) lo len) (hb : st.bx b = some (.vec e (xs.map f))) (ht : sliceB P t el = true) (hz : EN P el = some z) (hzs : z.cells.toList = zs) (hz1 : zs.all Hd = true) (hze : zs.length = e) (hf : (zs.map fun v => (T.of v).nrm) = f z0)
  (next : Bd P X ops dr Q r (i + 1) (CV.upd ⟨[(x, d)], [(b, .vec e (xs.map f))], none, none, [(b, .vec e ((Gv xs lo (uY len z0)).map f))], []⟩ st) ((i, ⟨[(x, d)], [(b, .vec e (xs.map f))], none, none, [(b, .vec e ((Gv xs lo (uY len z0)).map f))], []⟩) :: log)) : Bd P X ops dr Q (r + 1) i st log := by
 refine UT hop0 hx hD hb ht hz hzs hz1 hze (rows' := (Gv xs lo (uY len z0)).map f) ?_ next
 rw [hf, ← QG]; simp
theorem TA {x : Operand} {s t el b e lo len : Nat} (hat : At st.env ops i X.n (.call ⟨.builtin .len, #[x], #[t]⟩) s gs)
  (hx : opd st.env x = some (.e (.one (.view b e lo len)))) (ht : sliceB P t el = true)
  (next : Bd P X ops dr Q r (i + 1) (CV.upd ⟨gs ++ [(x, .e (.one (.view b e lo len)))], [], some s, some (vD (.int .i64 (len : Int))), [], []⟩ st) ((i, ⟨gs ++ [(x, .e (.one (.view b e lo len)))], [], some s, some (vD (.int .i64 (len : Int))), [], []⟩) :: log)) : Bd P X ops dr Q (r + 1) i st log := Yk hat hx ht next
end run
theorem NM {α : Type} {st : St} (f : α → List T) (xs : List α) (s b e : Nat) (hs0 : st.env s = some (.e (.one (.own b)))) (hb : st.bx b = some (.vec e (xs.map f))) : GM P X st (St.put st (some s) (some (.e (.one (.view b e 0 xs.length))))) := by
 have := TT (P := P) (X := X) s b e (xs.map f) hs0 hb
 rwa [vT] at this
theorem Sn {α : Type} {st : St} (f : α → List T) (xs : List α) (s b n e len : Nat) (hs0 : st.env s = some (.e (.one (.view b e 0 len)))) (hb : st.bx b = some (.vec e (xs.map f))) (hn : st.bx n = none) (hlb : BZ b = false) (hln : BZ n = false) (hle : len ≤ xs.length) :
  GM P X st (St.put ⟨st.env, Be st.bx [(n, .vec e ((xs.take len).map f)), (b, .gone)]⟩ (some s) (some (.e (.one (.own n))))) := by
 have := Vj (P := P) (X := X) s b n e len (xs.map f) hs0 hb hn hlb hln (by simpa using hle)
 rwa [← List.map_take] at this
theorem O3 (a b : ByteArray) : (a == b) = (a.data == b.data) := by
 cases a; cases b; rfl
theorem LQ (a b : ByteArray) (h : (a == b) = true) : (b == a) = true := by
 rw [O3] at h ⊢
 rw [beq_iff_eq] at h ⊢; exact h.symm
theorem ZY {c : Code} {Q : Exit → St → Prop} {st : St} (h : W P X c (fun e st => ∃ st', GM P X st st' ∧ Q e st') st) : W P X c Q st := by
 intro a w hs
 refine wp_mono (h a w hs) ?_
 rintro e a' w' ⟨st', ⟨st2, h1, h2⟩, h3⟩
 exact ⟨st2, h2, h1 a' w' h3⟩
def Tt (f : Nat → Nat) (env : Nat → Option D) : List (Nat × D) → Prop
 | [] => True
 | (s, d) :: ps => env s = some (d.ren f) ∧ Tt f env ps
def To (f : Nat → Nat) (bx : Nat → Option BP) : List (Nat × BP) → Prop
 | [] => True
 | (b, k) :: ps => bx (f b) = some (k.ren f) ∧ To f bx ps
def FK : List (Nat × BP) → List Nat
 | [] => []
 | (b, _) :: ps => b :: FK ps
def MU (f : Nat → Nat) : List Nat → Bool
 | [] => true
 | b :: bs => (if BZ b then f b == b else !BZ (f b)) && MU f bs
def ZH (b : Nat) : List Nat → Bool
 | [] => false
 | c :: cs => c == b || ZH b cs
def Pp (ns : List Nat) : List (Nat × D) → Bool
 | [] => true
 | (_, d) :: ps => (d.names.all fun b => ZH b ns) && Pp ns ps
def Pj (ns : List Nat) : List (Nat × BP) → Bool
 | [] => true
 | (_, d) :: ps => (d.names.all fun b => ZH b ns) && Pj ns ps
theorem Rq {f : Nat → Nat} {env : Nat → Option D} : ∀ {el : List (Nat × D)}, Tt f env el → Wf f env el
 | [], _ => trivial
 | (_, _) :: _, h => ⟨h.1, Rq h.2⟩
theorem Ry {f : Nat → Nat} {bx : Nat → Option BP} : ∀ {bl : List (Nat × BP)}, To f bx bl → WA f bx bl
 | [], _ => trivial
 | (_, _) :: _, h => ⟨h.1, Ry h.2⟩
theorem PS : ∀ bl : List (Nat × BP), FK bl = bl.map (·.1)
 | [] => rfl
 | (b, k) :: ps => by simp [FK, PS ps]
theorem Px {f : Nat → Nat} : ∀ bl : List (Nat × BP), MU f (FK bl) = bl.all fun p => if BZ p.1 then f p.1 == p.1 else !BZ (f p.1)
 | [] => rfl
 | (b, k) :: ps => by simp only [FK, MU, zC7, Px ps]
theorem SA {b : Nat} : ∀ bl : List (Nat × BP), ZH b (FK bl) = bl.any fun q => q.1 == b
 | [] => rfl
 | (c, k) :: ps => by simp only [FK, ZH, List.any_cons, SA ps]
theorem RY (bl : List (Nat × BP)) : ∀ el : List (Nat × D), Pp (FK bl) el = el.all fun p => p.2.names.all fun b => bl.any fun q => q.1 == b
 | [] => rfl
 | (s, d) :: ps => by simp only [Pp, zC7, RY bl ps, SA]
theorem QV (bl : List (Nat × BP)) : ∀ el : List (Nat × BP), Pj (FK bl) el = el.all fun p => p.2.names.all fun b => bl.any fun q => q.1 == b
 | [] => rfl
 | (s, d) :: ps => by simp only [Pj, zC7, QV bl ps, SA]
theorem VD {st : St} (f : Nat → Nat) (el : List (Nat × D)) (bl : List (Nat × BP)) (he : Tt f st.env el) (hb : To f st.bx bl) (hi : (Iz ((FK bl).map f) && MU f (FK bl)) = true) (hs : (Pp (FK bl) el && Pj (FK bl) bl) = true) : GM P X st (mk el bl) := by
 refine Wi f el bl (Rq he) (Ry hb) ?_ ?_
 ·rw [Px, PS] at hi; exact hi
 ·rw [RY, QV] at hs; exact hs
theorem T8 {dr : Bool} {Q : St → Prop} {r i : Nat} {st : St} {log : List (Nat × CV)} {gs : List (Operand × D)} {x y : Operand} {t s : Nat} {b : ByteArray} {k : IntKind} {n v : Int} (hat : At st.env ops i X.n (.index t x y) s gs)
  (hx : opd st.env x = some (vD (.string b))) (hy : opd st.env y = some (vD (.int k n))) (ht : PK P t = true) (hv : Xd b n = some v)
  (next : Bd P X ops dr Q r (i + 1) (CV.upd ⟨gs ++ [(x, vD (.string b)), (y, vD (.int k n))], [], some s, some (vD (.int .u8 v)), [], []⟩ st) ((i, ⟨gs ++ [(x, vD (.string b)), (y, vD (.int k n))], [], some s, some (vD (.int .u8 v)), [], []⟩) :: log)) : Bd P X ops dr Q (r + 1) i st log := by
 obtain ⟨c, h0, hc, e⟩ := T4 (f := some) (r := v) (by rw [hv]; rfl)
 cases e
 exact Vc hat hx hy ht h0 hc next
theorem MV {t kt el : TypeId} (h1 : P.underlying t = some (.map kt el)) (h2 : P.underlying kt = some .string) : Q0 P t Value.string where
 ty := ⟨kt, el, .string, h1, h2, fun _ _ => rfl, fun e n v w => by
  unfold Instr.checkKey
  refine Ai (AI h2 w) ?_
  rfl⟩
 same := fun a b h => by
  show (b == a) = true
  exact LQ a b h
end Go.Lift
namespace Go.Lift
open Go.RowKit
variable {P : Program} {X : Io} {ops : Array Oper}
def hd (env : Nat → Option D) (ops : Array Oper) (i n : Nat) : Option (Op × Nat × List (Operand × D)) := match aL ops i n with
 | some (op, s) => some (op, s, [])
 | none => match aY ops i n with
  | some (op, s, t, want) => (match env t, want with
   | some (.e (.one (.pure (.val (.bool true))))), true => some (op, s, [(.tmp t, bD true)])
   | some (.e (.one (.pure (.val (.bool false))))), false => some (op, s, [(.tmp t, bD false)])
   | _, _ => none)
  | none => none
theorem DX {env : Nat → Option D} {n i s : Nat} {op : Op} {gs : List (Operand × D)} (h : hd env ops i n = some (op, s, gs)) : At env ops i n op s gs := by
 unfold hd at h
 split at h
 ·rename_i e; cases h; exact .p e
 ·split at h
  ·rename_i e
   split at h
   ·rename_i e2; cases h; exact .g e e2
   ·rename_i e2; cases h; exact .g e e2
   ·cases h
  ·cases h
theorem t2 {α β : Type} {a c : α} {b d : β} (h : (a, b) = (c, d)) : a = c ∧ b = d := Prod.mk.inj h
abbrev Nx (P : Program) (X : Io) (ops : Array Oper) (dr : Bool) (Q : St → Prop) (r i : Nat) (st : St) (log : List (Nat × CV)) (l : CV) : Prop := Bd P X ops dr Q r (i + 1) (CV.upd l st) ((i, l) :: log)
theorem sj {α : Type} {a b : α} (h : some a = some b) : a = b := Option.some.inj h
def Uo (env : Nat → Option D) : List Operand → Option (List D)
 | [] => some []
 | x :: xs => match opd env x, Uo env xs with
  | some d, some ds => some (d :: ds)
  | _, _ => none
theorem QQ {env : Nat → Option D} : ∀ {xs : List Operand} {ds : List D}, Uo env xs = some ds → xs.length = ds.length ∧ FX env (HJ xs ds)
 | [], ds, h => by cases h; exact ⟨rfl, trivial⟩
 | x :: xs, ds, h => by
  simp only [Uo] at h
  split at h
  ·rename_i e1 e2
   cases h
   have := QQ e2
   exact ⟨by simp [this.1], e1, this.2⟩
  ·cases h
def Z8 (bx : Nat → Option BP) : List Nat → Option (List (Nat × BP))
 | [] => some []
 | b :: bs => match bx b, Z8 bx bs with
  | some k, some ks => some ((b, k) :: ks)
  | _, _ => none
theorem VI {bx : Nat → Option BP} : ∀ {l : List Nat} {bs : List (Nat × BP)}, Z8 bx l = some bs → HK bx bs
 | [], bs, h => by cases h; trivial
 | b :: l, bs, h => by
  simp only [Z8] at h
  split at h
  ·rename_i e1 e2
   cases h
   exact ⟨e1, VI e2⟩
  ·cases h
def YE (env : Nat → Option D) : List (Nat × Operand) → Option (List (Nat × Operand × E))
 | [] => some []
 | p :: ps => match opd env p.2, YE env ps with
  | some (.e y), some qs => some ((p.1, p.2, y) :: qs)
  | _, _ => none
theorem TL {env : Nat → Option D} : ∀ {l : List (Nat × Operand)} {ps : List (Nat × Operand × E)}, YE env l = some ps → l = (ps.map fun p => (p.1, p.2.1)) ∧ FX env (I4 ps)
 | [], ps, h => by cases h; exact ⟨rfl, trivial⟩
 | p :: l, ps, h => by
  simp only [YE] at h
  split at h
  ·rename_i e1 e2
   cases h
   have := TL e2
   exact ⟨by rw [zA1, ← this.1], e1, this.2⟩
  ·cases h
theorem Vi {env : Nat → Option D} {parts : Array (Nat × Operand)} {ps : List (Nat × Operand × E)} (h : YE env parts.toList = some ps) : parts = (ps.map fun p => (p.1, p.2.1)).toArray ∧ FX env (I4 ps) := by
 have := TL h
 exact ⟨by rw [← this.1], this.2⟩
def WB (k : Nat) : List (Nat × Operand × E) → Bool
 | [] => true
 | p :: ps => Nat.beq p.1 k && WB (k + 1) ps
theorem S1 : ∀ {k : Nat} {ps : List (Nat × Operand × E)}, WB k ps = true → ps.map (·.1) = zG0 k ps.length
 | _, [], _ => rfl
 | k, p :: ps, h => by
  simp only [WB, uV] at h
  rw [zA1, vV, List.range'_succ, S1 h.2, Nat.eq_of_beq_eq_true h.1]
def aO : Option BP → Bool
 | none => true
 | some _ => false
theorem P8 {bx : Nat → Option BP} : ∀ {ns : List Nat}, (ns.all fun n => aO (bx n)) = true → LT bx ns
 | [], _ => trivial
 | n :: ns, h => by
  simp only [zC7, uV] at h
  refine ⟨?_, P8 h.2⟩
  have := h.1
  cases hb : bx n with
  | none => rfl
  | some k => rw [hb] at this; cases this
theorem Pz {ns : List Nat} (h : (Iz ns && (ns.all fun n => !BZ n)) = true) : KV ns := by
 rw [uV] at h
 exact ⟨Gy h.1, fun c hc => by simpa using uX.1 h.2 c hc⟩
def ZV (env : Nat → Option D) : List (Nat × D) → List (Option D)
 | [] => []
 | (s, _) :: ps => env s :: ZV env ps
def Z2 (f : Nat → Nat) : List (Nat × D) → List (Option D)
 | [] => []
 | (_, d) :: ps => some (d.ren f) :: Z2 f ps
def Y0 (f : Nat → Nat) (bx : Nat → Option BP) : List (Nat × BP) → List (Option BP)
 | [] => []
 | (b, _) :: ps => bx (f b) :: Y0 f bx ps
def ZX (f : Nat → Nat) : List (Nat × BP) → List (Option BP)
 | [] => []
 | (_, k) :: ps => some (k.ren f) :: ZX f ps
theorem VN {f : Nat → Nat} {env : Nat → Option D} : ∀ {el : List (Nat × D)}, ZV env el = Z2 f el → Tt f env el
 | [], _ => trivial
 | (s, d) :: el, h => by
  simp only [ZV, Z2] at h
  obtain ⟨h1, h2⟩ := List.cons.inj h
  exact ⟨h1, VN h2⟩
theorem U9 {f : Nat → Nat} {bx : Nat → Option BP} : ∀ {el : List (Nat × BP)}, Y0 f bx el = ZX f el → To f bx el
 | [], _ => trivial
 | (s, d) :: el, h => by
  simp only [Y0, ZX] at h
  obtain ⟨h1, h2⟩ := List.cons.inj h
  exact ⟨h1, U9 h2⟩
theorem sm {st : St} (l : List (Nat × Nat)) (el : List (Nat × D)) (bl : List (Nat × BP)) (h : (ZV st.env el, Y0 (rn l) st.bx bl) = (Z2 (rn l) el, ZX (rn l) bl)) (hi : ((Iz ((FK bl).map (rn l)) && MU (rn l) (FK bl)) && (Pp (FK bl) el && Pj (FK bl) bl)) = true) : GM P X st (mk el bl) :=
 VD (rn l) el bl (VN (t2 h).1) (U9 (t2 h).2) (zE1.1 hi).1 (zE1.1 hi).2
section run
variable {dr : Bool} {Q : St → Prop} {r i : Nat} {st : St} {log : List (Nat × CV)} {gs : List (Operand × D)}
theorem qm {x : Operand} {d : D} {s : Nat} (h : (hd st.env ops i X.n, opd st.env x) = (some (.move x, s, gs), some d)) (next : Nx P X ops dr Q r i st log ⟨gs ++ [(x, d)], [], some s, some d, [], []⟩) : Bd P X ops dr Q (r + 1) i st log :=
 X1 (DX (t2 h).1) (t2 h).2 next
theorem qa {x : Operand} {d : D} {s : Nat} (h : (hd st.env ops i X.n, opd st.env x) = (some (.assign x, s, gs), some d)) (next : Nx P X ops dr Q r i st log ⟨gs ++ [(x, d)], [], some s, some d, [], []⟩) : Bd P X ops dr Q (r + 1) i st log :=
 V2 (DX (t2 h).1) (t2 h).2 next
theorem qn {j t s : Nat} {want : Bool} (h : (X8 ops i X.n, st.env t) = (some (j, s, t, want), some (bD (!want)))) (next : Nx P X ops dr Q r i st log ⟨[(.tmp t, bD (!want))], [], some s, some uD, [], []⟩) : Bd P X ops dr Q (r + 1) i st log :=
 XZ (t2 h).1 (t2 h).2 next
theorem qu {j t s : Nat} {want : Bool} (h : (X8 ops i X.n, st.env t) = (some (j, s, t, want), some uD)) (next : Nx P X ops dr Q r i st log ⟨[(.tmp t, uD)], [], some s, some uD, [], []⟩) : Bd P X ops dr Q (r + 1) i st log :=
 X3 (t2 h).1 (t2 h).2 next
theorem qp {c x y : Operand} {b : Bool} {d : D} {z : Operand} {s : Nat} (h : (hd st.env ops i X.n, opd st.env c, (if b then x else y), opd st.env z) = (some (.pick c x y, s, gs), some (bD b), z, some d)) (next : Nx P X ops dr Q r i st log ⟨gs ++ [(c, bD b), (z, d)], [], some s, some d, [], []⟩) : Bd P X ops dr Q (r + 1) i st log :=
 Yd (DX (t2 h).1) (t2 (t2 h).2).1 (t2 (t2 (t2 h).2).2).1 (t2 (t2 (t2 h).2).2).2 next
theorem qf {x : Operand} {b k f off s : Nat} {t : TypeId} (hf : Cu P t f off = true) (h : (hd st.env ops i X.n, opd st.env x) = (some (.fieldAddr t x f, s, gs), some (.e (.one (.ptr b k))))) (next : Nx P X ops dr Q r i st log ⟨gs ++ [(x, .e (.one (.ptr b k)))], [], some s, some (.e (.one (.ptr b (k + off)))), [], []⟩) : Bd P X ops dr Q (r + 1) i st log :=
 Rr (DX (t2 h).1) (t2 h).2 hf next
theorem qg {x : Operand} {ts us : List T} {f off s : Nat} {t : TypeId} (hf : Cu P t f off = true) (h : (hd st.env ops i X.n, opd st.env x, zD5 (off) (ts.length), ts.drop off) = (some (.fieldAddr t x f, s, gs), some (.e (.one (.rop ts))), true, us)) (next : Nx P X ops dr Q r i st log ⟨gs ++ [(x, .e (.one (.rop ts)))], [], some s, some (.e (.one (.rop us))), [], []⟩) : Bd P X ops dr Q (r + 1) i st log :=
 QF (DX (t2 h).1) (t2 (t2 h).2).1 hf (vY (t2 (t2 (t2 h).2).2).1) (t2 (t2 (t2 h).2).2).2 next
theorem qh {x : Operand} {b e ix k f off s : Nat} {t : TypeId} (hf : Cu P t f off = true) (h : (hd st.env ops i X.n, opd st.env x) = (some (.fieldAddr t x f, s, gs), some (.e (.one (.eptr b e ix k))))) (next : Nx P X ops dr Q r i st log ⟨gs ++ [(x, .e (.one (.eptr b e ix k)))], [], some s, some (.e (.one (.eptr b e ix (k + off)))), [], []⟩) : Bd P X ops dr Q (r + 1) i st log :=
 Qn (DX (t2 h).1) (t2 h).2 hf next
theorem ql {x : Operand} {b k s : Nat} {cells : List C} {c : C} {t : TypeId} (ht : Fp P t false = true) (h : (hd st.env ops i X.n, opd st.env x, st.bx b, cells[k]?) = (some (.load t x, s, gs), some (.e (.one (.ptr b k))), some (.box cells), some c)) (next : Nx P X ops dr Q r i st log ⟨gs ++ [(x, .e (.one (.ptr b k)))], [(b, .box cells)], some s, some (.e (.one c)), [], []⟩) : Bd P X ops dr Q (r + 1) i st log :=
 Wt (DX (t2 h).1) (t2 (t2 h).2).1 ht (t2 (t2 (t2 h).2).2).1 (t2 (t2 (t2 h).2).2).2 next
theorem qL {x : Operand} {b k n s : Nat} {cells cs : List C} {t : TypeId} (ht : Fp P t true = true) (hz : Hl P t n = true) (h : (hd st.env ops i X.n, opd st.env x, st.bx b, (cells.drop k).take n, cs.length) = (some (.load t x, s, gs), some (.e (.one (.ptr b k))), some (.box cells), cs, n)) (next : Nx P X ops dr Q r i st log ⟨gs ++ [(x, .e (.one (.ptr b k)))], [(b, .box cells)], some s, some (.e (.agg cs)), [], []⟩) : Bd P X ops dr Q (r + 1) i st log :=
 V9 (DX (t2 h).1) (t2 (t2 h).2).1 ht hz (t2 (t2 (t2 h).2).2).1 (t2 (t2 (t2 (t2 h).2).2).2).1 (t2 (t2 (t2 (t2 h).2).2).2).2 next
theorem qk {x : Operand} {s : Nat} {ts : List T} {u : T} {t : TypeId} (ht : Fp P t false = true) (h : (hd st.env ops i X.n, opd st.env x, ts[0]?) = (some (.load t x, s, gs), some (.e (.one (.rop ts))), some u)) (next : Nx P X ops dr Q r i st log ⟨gs ++ [(x, .e (.one (.rop ts)))], [], some s, some (one u), [], []⟩) : Bd P X ops dr Q (r + 1) i st log :=
 VP (DX (t2 h).1) (t2 (t2 h).2).1 ht (t2 (t2 h).2).2 next
theorem qK {x : Operand} {s n : Nat} {ts us : List T} {t : TypeId} (ht : Fp P t true = true) (hz : Hl P t n = true) (h : (hd st.env ops i X.n, opd st.env x, ts.take n, us.length) = (some (.load t x, s, gs), some (.e (.one (.rop ts))), us, n)) (next : Nx P X ops dr Q r i st log ⟨gs ++ [(x, .e (.one (.rop ts)))], [], some s, some (.e (.agg (us.map C.pure))), [], []⟩) : Bd P X ops dr Q (r + 1) i st log :=
 VZ (DX (t2 h).1) (t2 (t2 h).2).1 ht hz (t2 (t2 (t2 h).2).2).1 (t2 (t2 (t2 h).2).2).2 next
theorem qx {x : Operand} {xs : List E} {y : E} {k s : Nat} (h : (hd st.env ops i X.n, opd st.env x, xs[k]?) = (some (.extract x k, s, gs), some (.tup xs), some y)) (next : Nx P X ops dr Q r i st log ⟨gs ++ [(x, .tup xs)], [], some s, some (.e y), [], []⟩) : Bd P X ops dr Q (r + 1) i st log :=
 TY (DX (t2 h).1) (t2 (t2 h).2).1 (t2 (t2 h).2).2 next
theorem qb {x : Operand} {y : E} {s : Nat} {el : TypeId} (h : (hd st.env ops i X.n, opd st.env x, st.bx s) = (some (.box el x, s, gs), some (.e y), none)) (next : Nx P X ops dr Q r i st log ⟨gs ++ [(x, .e y)], [], some s, some (.e (.one (.ptr s 0))), [(s, .box y.cells)], [s]⟩) : Bd P X ops dr Q (r + 1) i st log :=
 ZB (DX (t2 h).1) (t2 (t2 h).2).1 (t2 (t2 h).2).2 next
theorem qz {z : Value} {zs : List Value} {s : Nat} {el : TypeId} (hz : EN P el = some z) (h : (hd st.env ops i X.n, z.cells.toList, zs.all Hd, st.bx s) = (some (.alloc el, s, gs), zs, true, none)) (next : Nx P X ops dr Q r i st log ⟨gs ++ [], [], some s, some (.e (.one (.ptr s 0))), [(s, .box (zs.map fun v => C.pure (T.of v)))], [s]⟩) : Bd P X ops dr Q (r + 1) i st log :=
 WF (DX (t2 h).1) hz (t2 (t2 h).2).1 (t2 (t2 (t2 h).2).2).1 (t2 (t2 (t2 h).2).2).2 next
theorem qs {x y : Operand} {b k n : Nat} {cells cells' : List C} {v : E} {t : TypeId} (hz : Hl P t n = true) (h : (Q2 ops i, opd st.env x, opd st.env y, st.bx b, v.cells.length, zD5 (k + n) (cells.length), J3 cells k v.cells) = (some (.store t x y), some (.e (.one (.ptr b k))), some (.e v), some (.box cells), n, true, cells')) (next : Nx P X ops dr Q r i st log ⟨[(x, .e (.one (.ptr b k))), (y, .e v)], [(b, .box cells)], none, none, [(b, .box cells')], []⟩) : Bd P X ops dr Q (r + 1) i st log :=
 Wz (t2 h).1 (t2 (t2 h).2).1 (t2 (t2 (t2 h).2).2).1 (t2 (t2 (t2 (t2 h).2).2).2).1 hz (t2 (t2 (t2 (t2 (t2 h).2).2).2).2).1 (vY (t2 (t2 (t2 (t2 (t2 (t2 h).2).2).2).2).2).1) (t2 (t2 (t2 (t2 (t2 (t2 h).2).2).2).2).2).2 next
theorem qi {x y : Operand} {s e : Nat} {rows : List (List T)} {row : List T} {t el : TypeId} {k : IntKind} {n : Int} (ht : sliceB P t el = true) (hz : Hl P el e = true) (h0 : 0 ≤ n) (hrow : rows[n.toNat]? = some row) (h : (hd st.env ops i X.n, opd st.env x, opd st.env y, row.length) = (some (.indexAddr t x y, s, gs), some (one (.sl rows)), some (vD (.int k n)), e)) (next : Nx P X ops dr Q r i st log ⟨gs ++ [(x, one (.sl rows)), (y, vD (.int k n))], [], some s, some (.e (.one (.rop row))), [], []⟩) : Bd P X ops dr Q (r + 1) i st log :=
 Wn (DX (t2 h).1) (t2 (t2 h).2).1 (t2 (t2 (t2 h).2).2).1 ht hz h0 hrow (t2 (t2 (t2 h).2).2).2 next
theorem qI {x y : Operand} {s e b : Nat} {rows : List (List T)} {row : List T} {t el : TypeId} {k : IntKind} {n : Int} (ht : sliceB P t el = true) (hz : Hl P el e = true) (h0 : 0 ≤ n) (hrow : rows[n.toNat]? = some row) (h : (hd st.env ops i X.n, opd st.env x, opd st.env y, st.bx b) = (some (.indexAddr t x y, s, gs), some (.e (.one (.own b))), some (vD (.int k n)), some (.vec e rows))) (next : Nx P X ops dr Q r i st log ⟨gs ++ [(x, .e (.one (.own b))), (y, vD (.int k n))], [(b, .vec e rows)], some s, some (.e (.one (.eptr b e n.toNat 0))), [], []⟩) : Bd P X ops dr Q (r + 1) i st log :=
 Uy (DX (t2 h).1) (t2 (t2 h).2).1 (t2 (t2 (t2 h).2).2).1 (t2 (t2 (t2 h).2).2).2 ht hz h0 hrow next
theorem qj {x : Operand} {b e ix k s : Nat} {rows : List (List T)} {row : List T} {u : T} {t : TypeId} (ht : Fp P t false = true) (hrow : rows[ix]? = some row) (h : (hd st.env ops i X.n, opd st.env x, st.bx b, row[k]?) = (some (.load t x, s, gs), some (.e (.one (.eptr b e ix k))), some (.vec e rows), some u)) (next : Nx P X ops dr Q r i st log ⟨gs ++ [(x, .e (.one (.eptr b e ix k)))], [(b, .vec e rows)], some s, some (one u), [], []⟩) : Bd P X ops dr Q (r + 1) i st log :=
 UA (DX (t2 h).1) (t2 (t2 h).2).1 ht (t2 (t2 (t2 h).2).2).1 hrow (t2 (t2 (t2 h).2).2).2 next
theorem qJ {x : Operand} {b e ix s : Nat} {rows : List (List T)} {row : List T} {t : TypeId} (ht : Fp P t true = true) (hz : Hl P t e = true) (hrow : rows[ix]? = some row) (h : (hd st.env ops i X.n, opd st.env x, st.bx b) = (some (.load t x, s, gs), some (.e (.one (.eptr b e ix 0))), some (.vec e rows))) (next : Nx P X ops dr Q r i st log ⟨gs ++ [(x, .e (.one (.eptr b e ix 0)))], [(b, .vec e rows)], some s, some (.e (.agg (row.map C.pure))), [], []⟩) : Bd P X ops dr Q (r + 1) i st log :=
 Mt (DX (t2 h).1) (t2 (t2 h).2).1 ht hz (t2 (t2 h).2).2 hrow next
theorem W4 {x : Operand} {s b k : Nat} (h : (hd st.env ops i X.n, opd st.env x) = (some (.nilCheck x, s, gs), some (.e (.one (.ptr b k))))) (next : Nx P X ops dr Q r i st log ⟨gs ++ [(x, .e (.one (.ptr b k)))], [], some s, some (.e (.one (.ptr b k))), [], []⟩) : Bd P X ops dr Q (r + 1) i st log :=
 Sm (DX (t2 h).1) (t2 h).2 next
theorem A4 {k : IntKind} {xt yt : TypeId} {x y : Operand} {a b : Int} {s : Nat} (h : (hd st.env ops i X.n, opd st.env x, opd st.env y) = (some (.binOp .add xt x y yt, s, gs), some (vD (.int k a)), some (vD (.int k b)))) (next : Nx P X ops dr Q r i st log ⟨gs ++ [(x, vD (.int k a)), (y, vD (.int k b))], [], some s, some (vD (.int k (k.wrap (a + b)))), [], []⟩) : Bd P X ops dr Q (r + 1) i st log :=
 II (DX (t2 h).1) (t2 (t2 h).2).1 (t2 (t2 h).2).2 (WQ _ _ _ _ _ _) rfl next
theorem Lr {k : IntKind} {xt yt : TypeId} {x y : Operand} {a b : Int} {s : Nat} (h : (hd st.env ops i X.n, opd st.env x, opd st.env y) = (some (.binOp .sub xt x y yt, s, gs), some (vD (.int k a)), some (vD (.int k b)))) (next : Nx P X ops dr Q r i st log ⟨gs ++ [(x, vD (.int k a)), (y, vD (.int k b))], [], some s, some (vD (.int k (k.wrap (a - b)))), [], []⟩) : Bd P X ops dr Q (r + 1) i st log :=
 II (DX (t2 h).1) (t2 (t2 h).2).1 (t2 (t2 h).2).2 (WX _ _ _ _ _ _) rfl next
theorem Np {k : IntKind} {xt yt : TypeId} {x y : Operand} {a b : Int} {s : Nat} (h : (hd st.env ops i X.n, opd st.env x, opd st.env y) = (some (.binOp .mul xt x y yt, s, gs), some (vD (.int k a)), some (vD (.int k b)))) (next : Nx P X ops dr Q r i st log ⟨gs ++ [(x, vD (.int k a)), (y, vD (.int k b))], [], some s, some (vD (.int k (k.wrap (a * b)))), [], []⟩) : Bd P X ops dr Q (r + 1) i st log :=
 II (DX (t2 h).1) (t2 (t2 h).2).1 (t2 (t2 h).2).2 (Xb _ _ _ _ _ _) rfl next
theorem BY {k : IntKind} {xt yt : TypeId} {x y : Operand} {a b : Int} {s : Nat} (h : (hd st.env ops i X.n, opd st.env x, opd st.env y) = (some (.binOp .eql xt x y yt, s, gs), some (vD (.int k a)), some (vD (.int k b)))) (next : Nx P X ops dr Q r i st log ⟨gs ++ [(x, vD (.int k a)), (y, vD (.int k b))], [], some s, some (vD (.bool (a == b))), [], []⟩) : Bd P X ops dr Q (r + 1) i st log :=
 II (DX (t2 h).1) (t2 (t2 h).2).1 (t2 (t2 h).2).2 (WC _ _ _ _ _ _) rfl next
theorem Ci {k : IntKind} {xt yt : TypeId} {x y : Operand} {a b : Int} {s : Nat} (h : (hd st.env ops i X.n, opd st.env x, opd st.env y) = (some (.binOp .neq xt x y yt, s, gs), some (vD (.int k a)), some (vD (.int k b)))) (next : Nx P X ops dr Q r i st log ⟨gs ++ [(x, vD (.int k a)), (y, vD (.int k b))], [], some s, some (vD (.bool (a != b))), [], []⟩) : Bd P X ops dr Q (r + 1) i st log :=
 II (DX (t2 h).1) (t2 (t2 h).2).1 (t2 (t2 h).2).2 (Wm _ _ _ _ _ _) rfl next
theorem AV {k : IntKind} {xt yt : TypeId} {x y : Operand} {a b : Int} {s : Nat} (h : (hd st.env ops i X.n, opd st.env x, opd st.env y) = (some (.binOp .lss xt x y yt, s, gs), some (vD (.int k a)), some (vD (.int k b)))) (next : Nx P X ops dr Q r i st log ⟨gs ++ [(x, vD (.int k a)), (y, vD (.int k b))], [], some s, some (vD (.bool (decide (a < b)))), [], []⟩) : Bd P X ops dr Q (r + 1) i st log :=
 II (DX (t2 h).1) (t2 (t2 h).2).1 (t2 (t2 h).2).2 (Wa _ _ _ _ _ _) rfl next
theorem XA {k : IntKind} {xt yt : TypeId} {x y : Operand} {a b : Int} {s : Nat} (h : (hd st.env ops i X.n, opd st.env x, opd st.env y) = (some (.binOp .leq xt x y yt, s, gs), some (vD (.int k a)), some (vD (.int k b)))) (next : Nx P X ops dr Q r i st log ⟨gs ++ [(x, vD (.int k a)), (y, vD (.int k b))], [], some s, some (vD (.bool (decide (a ≤ b)))), [], []⟩) : Bd P X ops dr Q (r + 1) i st log :=
 II (DX (t2 h).1) (t2 (t2 h).2).1 (t2 (t2 h).2).2 (WZ _ _ _ _ _ _) rfl next
theorem FW {k : IntKind} {xt yt : TypeId} {x y : Operand} {a b : Int} {s : Nat} (h : (hd st.env ops i X.n, opd st.env x, opd st.env y) = (some (.binOp .gtr xt x y yt, s, gs), some (vD (.int k a)), some (vD (.int k b)))) (next : Nx P X ops dr Q r i st log ⟨gs ++ [(x, vD (.int k a)), (y, vD (.int k b))], [], some s, some (vD (.bool (decide (b < a)))), [], []⟩) : Bd P X ops dr Q (r + 1) i st log :=
 II (DX (t2 h).1) (t2 (t2 h).2).1 (t2 (t2 h).2).2 (Xg _ _ _ _ _ _) rfl next
theorem Fb {k : IntKind} {xt yt : TypeId} {x y : Operand} {a b : Int} {s : Nat} (h : (hd st.env ops i X.n, opd st.env x, opd st.env y) = (some (.binOp .geq xt x y yt, s, gs), some (vD (.int k a)), some (vD (.int k b)))) (next : Nx P X ops dr Q r i st log ⟨gs ++ [(x, vD (.int k a)), (y, vD (.int k b))], [], some s, some (vD (.bool (decide (b ≤ a)))), [], []⟩) : Bd P X ops dr Q (r + 1) i st log :=
 II (DX (t2 h).1) (t2 (t2 h).2).1 (t2 (t2 h).2).2 (WP _ _ _ _ _ _) rfl next
theorem Mu {k : IntKind} {xt yt : TypeId} {x y : Operand} {a b : Int} {s : Nat} (h : (hd st.env ops i X.n, opd st.env x, opd st.env y) = (some (.binOp .and xt x y yt, s, gs), some (vD (.int k a)), some (vD (.int k b)))) (next : Nx P X ops dr Q r i st log ⟨gs ++ [(x, vD (.int k a)), (y, vD (.int k b))], [], some s, some (vD (.int k (F5 k a b))), [], []⟩) : Bd P X ops dr Q (r + 1) i st log :=
 II (DX (t2 h).1) (t2 (t2 h).2).1 (t2 (t2 h).2).2 (WS _ _ _ _ _ _) rfl next
theorem TN {k : IntKind} {xt yt : TypeId} {x y : Operand} {a b : Int} {s : Nat} (h : (hd st.env ops i X.n, opd st.env x, opd st.env y) = (some (.binOp .or xt x y yt, s, gs), some (vD (.int k a)), some (vD (.int k b)))) (next : Nx P X ops dr Q r i st log ⟨gs ++ [(x, vD (.int k a)), (y, vD (.int k b))], [], some s, some (vD (.int k (MG k a b))), [], []⟩) : Bd P X ops dr Q (r + 1) i st log :=
 II (DX (t2 h).1) (t2 (t2 h).2).1 (t2 (t2 h).2).2 (XV _ _ _ _ _ _) rfl next
theorem I7 {k : IntKind} {xt yt : TypeId} {x y : Operand} {a b : Int} {s : Nat} (h : (hd st.env ops i X.n, opd st.env x, opd st.env y) = (some (.binOp .andNot xt x y yt, s, gs), some (vD (.int k a)), some (vD (.int k b)))) (next : Nx P X ops dr Q r i st log ⟨gs ++ [(x, vD (.int k a)), (y, vD (.int k b))], [], some s, some (vD (.int k (DH k a b))), [], []⟩) : Bd P X ops dr Q (r + 1) i st log :=
 II (DX (t2 h).1) (t2 (t2 h).2).1 (t2 (t2 h).2).2 (Sr _ _ _ _ _ _) rfl next
theorem Jm {k k' : IntKind} {xt yt : TypeId} {x y : Operand} {a b : Int} {s : Nat} (h : (hd st.env ops i X.n, opd st.env x, opd st.env y) = (some (.binOp .shl xt x y yt, s, gs), some (vD (.int k a)), some (vD (.int k' b)))) (hc : 0 ≤ b) (next : Nx P X ops dr Q r i st log ⟨gs ++ [(x, vD (.int k a)), (y, vD (.int k' b))], [], some s, some (vD (.int k (D7 k a b))), [], []⟩) : Bd P X ops dr Q (r + 1) i st log :=
 II (DX (t2 h).1) (t2 (t2 h).2).1 (t2 (t2 h).2).2 (WG _ _ _ _ _ _ _ hc) rfl next
theorem Jv {k k' : IntKind} {xt yt : TypeId} {x y : Operand} {a b : Int} {s : Nat} (h : (hd st.env ops i X.n, opd st.env x, opd st.env y) = (some (.binOp .shr xt x y yt, s, gs), some (vD (.int k a)), some (vD (.int k' b)))) (hc : 0 ≤ b) (next : Nx P X ops dr Q r i st log ⟨gs ++ [(x, vD (.int k a)), (y, vD (.int k' b))], [], some s, some (vD (.int k (Fo k a b))), [], []⟩) : Bd P X ops dr Q (r + 1) i st log :=
 II (DX (t2 h).1) (t2 (t2 h).2).1 (t2 (t2 h).2).2 (Xc _ _ _ _ _ _ _ hc) rfl next
theorem Jw {k : IntKind} {xt yt : TypeId} {x y : Operand} {a b : Int} {s : Nat} (h : (hd st.env ops i X.n, opd st.env x, opd st.env y) = (some (.binOp .rem xt x y yt, s, gs), some (vD (.int k a)), some (vD (.int k b)))) (hc : b ≠ 0) (next : Nx P X ops dr Q r i st log ⟨gs ++ [(x, vD (.int k a)), (y, vD (.int k b))], [], some s, some (vD (.int k (a.tmod b))), [], []⟩) : Bd P X ops dr Q (r + 1) i st log :=
 II (DX (t2 h).1) (t2 (t2 h).2).1 (t2 (t2 h).2).2 (Wq _ _ _ _ _ _ hc) rfl next
theorem Cm {xt : TypeId} {x : Operand} {b : Bool} {s : Nat} (h : (hd st.env ops i X.n, opd st.env x) = (some (.unOp .not xt x, s, gs), some (bD b))) (next : Nx P X ops dr Q r i st log ⟨gs ++ [(x, bD b)], [], some s, some (vD (.bool (!b))), [], []⟩) : Bd P X ops dr Q (r + 1) i st log :=
 bb (DX (t2 h).1) (t2 h).2 (Yr _) rfl next
theorem Iw {xt yt : TypeId} {k k' : IntKind} {x : Operand} {a : Int} {s : Nat} (hs : (P.underlying xt).isSome = true) (ht : NU P yt k = true) (h : (hd st.env ops i X.n, opd st.env x) = (some (.convert xt yt x, s, gs), some (vD (.int k' a)))) (next : Nx P X ops dr Q r i st log ⟨gs ++ [(x, vD (.int k' a))], [], some s, some (vD (.int k (k.wrap a))), [], []⟩) : Bd P X ops dr Q (r + 1) i st log :=
 X4 (DX (t2 h).1) (t2 h).2 (Vf hs ht _ _) rfl next
theorem AL {α : Type} {f : α → List T} {xs : List α} {x : Operand} {s : Nat} {t el : TypeId} (ht : sliceB P t el = true) (h : (hd st.env ops i X.n, opd st.env x) = (some (.call ⟨.builtin .len, #[x], #[t]⟩, s, gs), some (one (.sl (xs.map f))))) (next : Nx P X ops dr Q r i st log ⟨gs ++ [(x, one (.sl (xs.map f)))], [], some s, some (vD (.int .i64 (xs.length : Int))), [], []⟩) : Bd P X ops dr Q (r + 1) i st log :=
 XB (DX (t2 h).1) (t2 h).2 (.sl _) trivial (vT _) ht next
theorem D1 {α : Type} {f : α → List T} {xs : List α} {x : Operand} {s b e : Nat} {t el : TypeId} (ht : sliceB P t el = true) (h : (hd st.env ops i X.n, opd st.env x, st.bx b) = (some (.call ⟨.builtin .len, #[x], #[t]⟩, s, gs), some (.e (.one (.own b))), some (.vec e (xs.map f)))) (next : Nx P X ops dr Q r i st log ⟨gs ++ [(x, .e (.one (.own b)))], [(b, .vec e (xs.map f))], some s, some (vD (.int .i64 (xs.length : Int))), [], []⟩) : Bd P X ops dr Q (r + 1) i st log :=
 XB (DX (t2 h).1) (t2 (t2 h).2).1 (.own _ _ _) ⟨(t2 (t2 h).2).2, trivial⟩ (vT _) ht next
theorem Br {t : TypeId} {s : Nat} {z : Value} {zs : List Value} {pl : List (Nat × Nat)} {cells : List C} {parts : Array (Nat × Operand)} {ps : List (Nat × Operand × E)} (hz : EN P t = some z) (hpl : IP P t = some pl) (h : (hd st.env ops i X.n, YE st.env parts.toList, z.cells.toList, zs.all Hd, Mb (pl[·]?) (zs.map fun v => C.pure (T.of v)) (ps.map fun p => (p.1, p.2.2))) = (some (.build t parts, s, gs), some ps, zs, true, some cells)) (next : Nx P X ops dr Q r i st log ⟨gs ++ I4 ps, [], some s, some (.e (.agg cells)), [], []⟩) : Bd P X ops dr Q (r + 1) i st log :=
 have q := Vi (t2 (t2 h).2).1
 Xh ps (DX (t2 h).1) (by rw [← q.1]) q.2 hz (t2 (t2 (t2 h).2).2).1 (t2 (t2 (t2 (t2 h).2).2).2).1 hpl (t2 (t2 (t2 (t2 h).2).2).2).2 next
theorem DF {t el : TypeId} {s n e : Nat} {z : Value} {rows : List (List T)} {parts : Array (Nat × Operand)} {ps : List (Nat × Operand × E)} (ht : sliceB P t el = true) (he : Hl P el e = true) (hz : EN P el = some z) (h : (hd st.env ops i X.n, YE st.env parts.toList, st.bx s, WB 0 ps, ps.length, zD5 (n * e) 16777216, (ps.map fun p => (p.1, p.2.2)).mapM (fun p => p.2.ts), rows.all (fun row => row.length == e)) = (some (.buildSlice t n parts, s, gs), some ps, none, true, n, true, some rows, true)) (next : Nx P X ops dr Q r i st log ⟨gs ++ I4 ps, [], some s, some (.e (.one (.own s))), [(s, .vec e rows)], [s]⟩) : Bd P X ops dr Q (r + 1) i st log :=
 have q := Vi (t2 (t2 h).2).1
 have g := (t2 (t2 (t2 h).2).2).2
 Qg ps (DX (t2 h).1) (by rw [← q.1]) q.2 (t2 (t2 (t2 h).2).2).1 ht he hz (S1 (t2 g).1) (t2 (t2 g).2).1 (vY (t2 (t2 (t2 g).2).2).1) (t2 (t2 (t2 (t2 g).2).2).2).1 (t2 (t2 (t2 (t2 g).2).2).2).2 next
theorem Aw {f s : Nat} {xs : List Operand} {ds0 ds : List D} {rv : List (Nat × List (List T))} {res : D} {ts : Array TypeId} (ns : List Nat) (hc : Ar P f ds rv res) (hf : AF P f = true) (h : (hd st.env ops i X.n, Uo st.env xs, ds0.map D.nrm, ds.all RJ, ns.length, Iz ns && (ns.all fun n => !BZ n), ns.all (fun n => aO (st.bx n)), res.names.all (fun b => decide (b < rv.length))) = (some (.call ⟨.value (.func f), xs.toArray, ts⟩, s, gs), some ds0, ds, true, rv.length, true, true, true)) (next : Nx P X ops dr Q r i st log ⟨gs ++ HJ xs ds0, [], some s, some (res.ren (nm ns)), Js ns rv, ns⟩) : Bd P X ops dr Q (r + 1) i st log :=
 have q := QQ (t2 (t2 h).2).1
 have g := (t2 (t2 (t2 h).2).2).2
 YD ns hc (DX (t2 h).1) hf q.1 q.2 (t2 (t2 (t2 h).2).2).1 (t2 g).1 (t2 (t2 g).2).1 (Pz (t2 (t2 (t2 g).2).2).1) (P8 (t2 (t2 (t2 (t2 g).2).2).2).1) (t2 (t2 (t2 (t2 g).2).2).2).2 next
theorem CP {f s : Nat} {xs : List Operand} {ds0 ds : List D} {rv : List (Nat × List (List T))} {res : D} {ts : Array TypeId} {bs : List (Nat × BP)} (ns lb : List Nat) (hc : Ar P f ds rv res) (hf : AF P f = true) (hfv : QX rv) (h : (hd st.env ops i X.n, Uo st.env xs, Z8 st.bx lb, ds0.map (fun d => (d.lend bs).nrm), ds.all RJ, ns.length, Iz ns && (ns.all fun n => !BZ n), ns.all (fun n => aO (st.bx n)), res.flat, res.names.all (fun b => decide (b < rv.length))) = (some (.call ⟨.value (.func f), xs.toArray, ts⟩, s, gs), some ds0, some bs, ds, true, rv.length, true, true, true, true)) (next : Nx P X ops dr Q r i st log ⟨gs ++ HJ xs ds0, bs, some s, some (res.ren (nm ns)), Js ns rv, ns⟩) : Bd P X ops dr Q (r + 1) i st log :=
 have q := QQ (t2 (t2 h).2).1
 have g := (t2 (t2 (t2 h).2).2).2
 have g2 := (t2 (t2 (t2 g).2).2).2
 WM ns bs hc (DX (t2 h).1) hf q.1 q.2 (VI (t2 (t2 (t2 h).2).2).1) (t2 g).1 (t2 (t2 g).2).1 (t2 (t2 (t2 g).2).2).1 (Pz (t2 g2).1) (P8 (t2 (t2 g2).2).1) (t2 (t2 (t2 g2).2).2).1 hfv (t2 (t2 (t2 g2).2).2).2 next
theorem Dp {α : Type} {f : α → List T} {xs : List α} {ys : List α} {x y : Operand} {t t2' el el2 s e bytes b b2 : Nat} {z : Value} (ht : sliceB P t el = true) (ht2 : sliceB P t2' el2 = true) (he : Hl P el e = true) (hby : Fs P el bytes = true) (hz : EN P el = some z) (hlim : xs.length + ys.length ≤ DC) (h : (hd st.env ops i X.n, opd st.env x, st.bx b, opd st.env y, st.bx b2, st.bx s, z.cells.size, zD5 bytes 4096, [b].all (fun b => !BZ b)) = (some (.call ⟨.builtin .append, #[x, y], #[t, t2']⟩, s, gs), some (.e (.one (.own b))), some (.vec e (xs.map f)), some (.e (.one (.own b2))), some (.vec e (ys.map f)), none, e, true, true)) (next : Nx P X ops dr Q r i st log ⟨gs ++ [(x, .e (.one (.own b))), (y, .e (.one (.own b2)))], [(b, .vec e (xs.map f))] ++ [(b2, .vec e (ys.map f))], some s, some (.e (.one (.own s))), (s, .vec e ((xs ++ ys).map f)) :: GQ [b], [s]⟩) : Bd P X ops dr Q (r + 1) i st log :=
 Rz (DX (t2 h).1) (t2 (t2 h).2).1 (.own _ _ _) ⟨(t2 (t2 (t2 h).2).2).1, trivial⟩ (t2 (t2 (t2 (t2 h).2).2).2).1 (.own _ _ _) ⟨(t2 (t2 (t2 (t2 (t2 h).2).2).2).2).1, trivial⟩ (t2 (t2 (t2 (t2 (t2 (t2 h).2).2).2).2).2).1 ht ht2 he hby (vY (t2 (t2 (t2 (t2 (t2 (t2 (t2 (t2 h).2).2).2).2).2).2).2).1) hz (t2 (t2 (t2 (t2 (t2 (t2 (t2 h).2).2).2).2).2).2).1 (by simpa using hlim) (by simp) (t2 (t2 (t2 (t2 (t2 (t2 (t2 (t2 h).2).2).2).2).2).2).2).2 next
theorem I0 {α : Type} {f : α → List T} {xs : List α} {ys : List α} {x y : Operand} {t t2' el el2 s e bytes b : Nat} {z : Value} (ht : sliceB P t el = true) (ht2 : sliceB P t2' el2 = true) (he : Hl P el e = true) (hby : Fs P el bytes = true) (hz : EN P el = some z) (hf : ∀ x, (f x).length = e) (hlim : xs.length + ys.length ≤ DC) (h : (hd st.env ops i X.n, opd st.env x, st.bx b, opd st.env y, st.bx s, z.cells.size, zD5 bytes 4096, [b].all (fun b => !BZ b)) = (some (.call ⟨.builtin .append, #[x, y], #[t, t2']⟩, s, gs), some (.e (.one (.own b))), some (.vec e (xs.map f)), some (one (.sl (ys.map f))), none, e, true, true)) (next : Nx P X ops dr Q r i st log ⟨gs ++ [(x, .e (.one (.own b))), (y, one (.sl (ys.map f)))], [(b, .vec e (xs.map f))] ++ [], some s, some (.e (.one (.own s))), (s, .vec e ((xs ++ ys).map f)) :: GQ [b], [s]⟩) : Bd P X ops dr Q (r + 1) i st log :=
 Rz (DX (t2 h).1) (t2 (t2 h).2).1 (.own _ _ _) ⟨(t2 (t2 (t2 h).2).2).1, trivial⟩ (t2 (t2 (t2 (t2 h).2).2).2).1 (.sl _ _ (MD hf _)) trivial (t2 (t2 (t2 (t2 (t2 h).2).2).2).2).1 ht ht2 he hby (vY (t2 (t2 (t2 (t2 (t2 (t2 (t2 h).2).2).2).2).2).2).1) hz (t2 (t2 (t2 (t2 (t2 (t2 h).2).2).2).2).2).1 (by simpa using hlim) (by simp) (t2 (t2 (t2 (t2 (t2 (t2 (t2 h).2).2).2).2).2).2).2 next
end run
end Go.Lift
namespace Go.Lift
open Go.RowKit
variable {P : Program}
def YR (P : Program) : List D → List D → Prop
 | [], [] => True
 | a :: ar, b :: bs => (∀ (w : World) (G : Gh) (v : Value), HE P w G v a → HE P w G v b) ∧ YR P ar bs
 | _, _ => False
theorem YR.get : ∀ {ar bs : List D}, YR P ar bs → ar.length = bs.length ∧ ∀ (j : Nat) (b : D), bs[j]? = some b → ∃ a, ar[j]? = some a ∧ ∀ (w : World) (G : Gh) (v : Value), HE P w G v a → HE P w G v b
 | [], [], _ => ⟨rfl, fun j b h => by simp at h⟩
 | a :: ar, b :: bs, h => by
  obtain ⟨h1, h2⟩ := YR.get h.2
  refine ⟨by simp [h1], fun j c hj => ?_⟩
  cases j with
  | zero => simp at hj; subst hj; exact ⟨a, rfl, h.1⟩
  | succ j => obtain ⟨a', g1, g2⟩ := h2 j c (by simpa using hj); exact ⟨a', by simpa using g1, g2⟩
theorem DS.weak {f : FuncId} {ds ds' : List D} {lent : List (BP × BP)} {rv : List BP} {res : D} (h : DS P f ds lent rv res) (hp : YR P ds' ds) : DS P f ds' lent rv res := by
 intro w G vs h1 hgk h2 h3 h4 hlen hargs
 obtain ⟨g1, g2⟩ := hp.get
 refine h w G vs h1 hgk h2 h3 h4 (by rw [hlen, g1]) fun j d hj => ?_
 obtain ⟨a, e1, e2⟩ := g2 j d hj
 exact e2 w G _ (hargs j a e1)
theorem RQ {f : FuncId} {g : List (Bool × List T) → Option T} (hf : AF P f = true) (hclo : ∀ ar t, g ar = some t → Ar P f (ar.map QD) [] (one t)) {w : World} {G : Gh} {v : Value} (h : HE P w G v (.e (.one (.fnc f)))) : HE P w G v (.e (.one (.clo g))) :=
 NN (S := G.S) hf hclo h
end Go.Lift
namespace Go.Lift
open Go.RowKit
variable {P : Program} {X : Io} {ops : Array Oper}
theorem J5 {α : Type} {xs : List α} {lo len i : Nat} {x : α} (h : ((xs.drop lo).take len)[i]? = some x) : i < len ∧ xs[lo + i]? = some x := by
 rw [List.getElem?_take] at h
 split at h
 ·rename_i h1; rw [zB0] at h; exact ⟨h1, h⟩
 ·cases h
section run
variable {dr : Bool} {Q : St → Prop} {r i : Nat} {st : St} {log : List (Nat × CV)} {gs : List (Operand × D)}
theorem MT {α : Type} (f : α → List T) (xs : List α) {x y : Operand} {s e b lo len q : Nat} {t el : TypeId} {k : IntKind} {n : Int} (hat : At st.env ops i X.n (.indexAddr t x y) s gs)
  (hx : opd st.env x = some (.e (.one (.view b e lo len)))) (hle : lo + len ≤ xs.length) (hy : opd st.env y = some (vD (.int k n))) (hb : st.bx b = some (.vec e (xs.map f))) (ht : sliceB P t el = true) (hz : Hl P el e = true) (h0 : 0 ≤ n) (hn1 : n.toNat < len) (hq : lo + n.toNat = q)
  (next : Nx P X ops dr Q r i st log ⟨gs ++ [(x, .e (.one (.view b e lo len))), (y, vD (.int k n))], [(b, .vec e (xs.map f))], some s, some (.e (.one (.eptr b e q 0))), [], []⟩) : Bd P X ops dr Q (r + 1) i st log := by
 subst hq
 exact VU (_row := []) hat hx (by simpa using hle) hy hb ht hz h0 hn1 next
end run
end Go.Lift
namespace Go.Lift
abbrev iC (x : Int) : C := .pure (.val (.int .i64 x))
abbrev sC (l : List (List T)) : C := .pure (.sl l)
abbrev iD (x : Int) : D := .e (.one (.pure (.val (.int .i64 x))))
abbrev pD (t : T) : D := .e (.one (.pure t))
abbrev oD (c : C) : D := .e (.one c)
theorem tv : True := trivial
end Go.Lift
namespace Go.Lift
open Go.RowKit
variable {P : Program} {X : Io} {ops : Array Oper}
section run
variable {dr : Bool} {Q : St → Prop} {r i : Nat} {st : St} {log : List (Nat × CV)} {o : Oper} {gs : List (Operand × D)}
end run
end Go.Lift
namespace Go.Lift
open List renaming mem_of_getElem? → lM
open List renaming getD_eq_getElem?_getD → lD
open Go.RowKit
variable {P : Program} {X : Io} {ops : Array Oper}
def J1 (P : Program) (f : FuncId) (args : List D) (tk : BP) (rv : List BP) (res : D) : Prop :=
 ∀ (w : World) (G : Gh) (vs : Array Value), (∀ β, G.S β → β < w.heap.size) → WI P w G.S → Fg P w G 90900 tk → (∀ β, G.has 90900 β → β < w.heap.size ∧ ¬ G.S β) →
  vs.size = args.length → (∀ (j : Nat) (d : D), args[j]? = some d → HE P w G (Au vs j) d) →
  Calls P f vs w fun e w' => ∃ v G', e = .returned v ∧ C9 (fun β => G.has 90900 β) w.heap.size w w' ∧ (∀ β, G.S β → G'.S β) ∧ (∀ β, G'.S β → G.S β ∨ (w.heap.size ≤ β ∧ β < w'.heap.size)) ∧ HE P w' G' v res ∧
   (∀ (k : Nat) (x : BP), rv[k]? = some x → Fg P w' G' k x) ∧
   (∀ k β, k < rv.length → G'.has k β → (w.heap.size ≤ β ∨ G.has 90900 β) ∧ β < w'.heap.size ∧ ¬ G'.S β) ∧
   (∀ k l β, k < rv.length → l < rv.length → G'.has k β → G'.has l β → k = l)
def nt (b : Nat) (ns : List Nat) (c : Nat) : Nat := if c = 90900 then b else ns.getD c 0
theorem QI {b : Nat} {ns : List Nat} {k : Nat} (h : k < 90900) : nt b ns k = nm ns k := by
 unfold nt nm; rw [if_neg (by omega)]
theorem Ml {bx : Nat → Option BP} {c : Nat} : ∀ {l1 l2 : List (Nat × BP)}, Be bx (l1 ++ l2) c = Be (Be bx l2) l1 c
 | [], l2 => rfl
 | p :: l1, l2 => by
  simp only [zF5, Be]
  rw [Ml (l1 := l1)]
section run
variable {dr : Bool} {Q : St → Prop} {r i : Nat} {st : St} {log : List (Nat × CV)} {o : Oper} {gs : List (Operand × D)}
theorem Tp {f s : Nat} {xs : List Operand} {ds0 ds : List D} {tk : BP} {rv : List BP} {res : D} {ts : Array TypeId} (b : Nat) (ns : List Nat) (hc : J1 P f ds tk rv res) (hat : At st.env ops i X.n (.call ⟨.value (.func f), xs.toArray, ts⟩) s gs)
  (hf : AF P f = true) (hl : xs.length = ds0.length) (hx : FX st.env (HJ xs ds0)) (hds : ds0.map D.nrm = ds.map (D.ren (nt b ns)))
  (hbb : st.bx b = some tk) (htk : (tk.real && tk.names.isEmpty) = true) (hns : ns.length = rv.length) (hnd : Iz ns = true) (hkind : (ns.all fun n => (BZ n == BZ b) && !Nc n) = true) (hnew : LT st.bx ns)
  (hlim : zD5 rv.length 1000 = true) (_hdn : (ds.all fun d => d.names.all fun c => c == 90900) = true)
  (hnm : ((res.names.all fun c => Nat.blt c rv.length) && rv.all fun x => x.names.isEmpty) = true)
  (next : Bd P X ops dr Q r (i + 1) (CV.upd ⟨gs ++ HJ xs ds0, [(b, tk)], some s, some (res.ren (nt b ns)), newB (nt b ns) ns rv ++ GQ [b], ns⟩ st) ((i, ⟨gs ++ HJ xs ds0, [(b, tk)], some s, some (res.ren (nt b ns)), newB (nt b ns) ns rv ++ GQ [b], ns⟩) :: log)) : Bd P X ops dr Q (r + 1) i st log := by
 obtain ⟨o, ho, hop, hd, hn, hg, hgp⟩ := hat.out
 have hnd := Gy hnd
 have hlim2 := vY hlim
 rw [uV] at hnm htk
 obtain ⟨hnmR, hnmV⟩ := hnm
 have htkn : tk.names = [] := List.isEmpty_iff.1 htk.2
 refine Bd.step next ⟨Am.2 ⟨hgp, hx⟩, ⟨hbb, trivial⟩, hnew⟩ ?_
 intro st a w K Q' hs hpre hK
 obtain ⟨G, hs⟩ := hs
 have hx := (Am.1 hpre.r).2
 have hw := hs.wanted hg (Am.1 hpre.r).1
 have hnew := hpre.n
 have hbb : st.bx b = some tk := hpre.b.1
 have hnew' : ∀ c, c ∈ ns → st.bx c = none := by
  have : ∀ {l : List Nat}, LT st.bx l → ∀ c, c ∈ l → st.bx c = none := by
   intro l
   induction l with
   | nil => intro _ c hc; cases hc
   | cons b l ih =>
    intro h c hc
    rcases vI.1 hc with e | e
    ·subst e; exact h.1
    ·exact ih h.2 c e
  exact this hnew
 have hbns : b ∉ ns := fun hm => by rw [hnew' b hm] at hbb; cases hbb
 unfold wpOp
 rw [ho]
 simp only [hw, if_true]
 refine .inl ?_
 unfold Oper.wp
 have hrun : (execOp a.eval o).run P w = .ok (.enter f (xs.toArray.map a.eval)) w := by
  simp only [execOp, hop]
  exact I8 hf rfl
 rw [hrun]
 show Calls P f (xs.toArray.map a.eval) w _
 let Gc : Gh := { S := G.S, loc := fun c => G.loc (nt b ns c), hd := fun c => G.hd (nt b ns c), more := fun c => G.more (nt b ns c) }
 have hGc : ∀ β, (Gc.has 90900 β ↔ G.has b β) := fun β => Iff.rfl
 have hbr : (tk.ren (nt b ns)) = tk := by
  cases tk with
  | box cs =>
   have : cs.map (C.ren (nt b ns)) = cs := by
    have h0 : Er cs = [] := htkn
    refine (zF2 fun c hc => ?_).trans (List.map_id cs)
    have hcn : c.names = [] := zF0.2 fun x hx => by
     have := Bp.2 ⟨c, hc, hx⟩
     rw [h0] at this; cases this
    cases c with
    | cls f caps =>
     refine congrArg (C.cls f) ?_
     refine (zF2 fun c hc => ?_).trans (List.map_id caps)
     have hcn2 : c.names = [] := zF0.2 fun x hx => by
      have := Gi.2 ⟨c, hc, hx⟩
      rw [show F1 caps = [] from hcn] at this; cases this
     cases c <;> first | rfl | (simp [Ku.names] at hcn2)
    | _ => first | rfl | (simp [C.names] at hcn)
   simp only [BP.ren]; rw [this]
  | hol e cols i k c rows => simp [BP.names] at htkn
  | _ => rfl
 refine (hc w Gc (xs.toArray.map a.eval) hs.S_lt hs.gok ?_ ?_ ?_ ?_).mono ?_
 ·refine I9 (f := nt b ns) ?_
  rw [hbr]
  exact hs.blk _ _ hbb
 ·intro β hβ
  exact (hs.at_ok _ _ β hbb htk.1 hβ).2
 ·have h1 := congrArg zD6 hds
  simp at h1
  simp; omega
 ·intro j d hj
  have hj2 : (ds.map (D.ren (nt b ns)))[j]? = some (d.ren (nt b ns)) := by rw [vC, hj]; rfl
  rw [← hds, vC] at hj2
  obtain ⟨d0, hj0, hd0⟩ : ∃ d0, ds0[j]? = some d0 ∧ d0.nrm = d.ren (nt b ns) := by
   cases hx0 : ds0[j]? with
   | none => rw [hx0] at hj2; cases hj2
   | some d0 => rw [hx0] at hj2; exact ⟨d0, rfl, by simpa using hj2⟩
  have hlt := AK hj0
  have hxj : xs[j]? = some (xs[j]'(by omega)) := by simp [show j < xs.length from by omega]
  have hop' := Jb hl hx j _ d0 hxj hj0
  have hcell : Au (xs.toArray.map a.eval) j = a.eval (xs[j]'(by omega)) := by simp [Au, show j < xs.length from by omega]
  rw [hcell]
  refine Jd (f := nt b ns) ?_
  rw [← hd0]
  exact (hs.opd hop').nrm
 ·rintro e w' ⟨v, G', rfl, hbel, hS1, hS2, hres', hvec, hvat, hvinj⟩
  show K (a.put o.dst v) w'
  rw [hd]
  let G2 : Gh := { S := G'.S, loc := fun c => if c ∈ ns then G'.loc (ns.idxOf c) else G.loc c, hd := fun c => if c ∈ ns then G'.hd (ns.idxOf c) else G.hd c, more := fun c => if c ∈ ns then G'.more (ns.idxOf c) else G.more c }
  have hidx : ∀ k, k < ns.length → ns.idxOf (nm ns k) = k := by
   intro k hk
   have hm := Fq hk
   have h1 : ns.idxOf (nm ns k) < ns.length := zF4 hm
   refine OT hnd h1 hk ?_
   have h2 := zH4 h1
   show ns.getD (ns.idxOf (nm ns k)) 0 = nm ns k
   rw [lD, vP h1, vW, h2]
  have hvia : G'.via G2 (nt b ns) (fun c => c < rv.length) := by
   refine ⟨fun β h => h, fun c hc => ?_, fun c hc => ?_, fun c hc => ?_⟩ <;>
   ·rw [QI (by omega)]
    simp only [G2]; rw [if_pos (Fq (by omega)), hidx c (by omega)]
  have hext : G.ext G2 (fun b => (st.bx b).isSome = true) := by
   have : ∀ b, (st.bx b).isSome = true → b ∉ ns := fun b hb hm => by rw [hnew' b hm] at hb; cases hb
   exact ⟨fun β h => hS1 β h, fun b hb => by simp only [G2]; rw [if_neg (this b hb)], fun b hb => by simp only [G2]; rw [if_neg (this b hb)], fun b hb => by simp only [G2]; rw [if_neg (this b hb)]⟩
  have hatb := fun β h => hs.at_ok b tk β hbb htk.1 h
  have hwS : ∀ β, G.S β → w'.heap[β]? = w.heap[β]? := fun β hβ => hbel.block β (hs.S_lt β hβ) fun h => (hatb β h).2.2 hβ
  have hsz := hbel.size
  have hle := hs.below.size
  have hng := fun c => Mw (f := nt b ns) (bx := Be st.bx (GQ [b])) (ns := ns) (rv := rv) (c := c) hns hnd
  have hbx' : ∀ c, Be st.bx (newB (nt b ns) ns rv ++ GQ [b]) c = Be (Be st.bx (GQ [b])) (newB (nt b ns) ns rv) c := fun c => Ml
  have hblk : ∀ c k, Be st.bx (newB (nt b ns) ns rv ++ GQ [b]) c = some k →
    (c ∉ ns ∧ c = b ∧ k = .gone) ∨ (c ∉ ns ∧ c ≠ b ∧ st.bx c = some k) ∨ (∃ m x, m < ns.length ∧ nm ns m = c ∧ rv[m]? = some x ∧ k = x.ren (nt b ns)) := by
   intro c k hc
   rw [hbx'] at hc
   by_cases hm2 : c ∈ ns
   ·obtain ⟨m, hm1, hm3⟩ := LM hm2
    have hrx : rv[m]? = some (rv[m]'(by omega)) := by simp [show m < rv.length from by omega]
    have := (hng c).2 m _ hrx
    rw [hm3, hc] at this
    exact .inr (.inr ⟨m, _, hm1, hm3, hrx, by simpa using this⟩)
   ·rw [(hng c).1 hm2] at hc
    rw [KD] at hc
    by_cases e : c = b
    ·rw [if_pos (by simp [e])] at hc; cases hc; exact .inl ⟨hm2, e, rfl⟩
    ·rw [if_neg (by simp [e])] at hc; exact .inr (.inl ⟨hm2, e, hc⟩)
  have hlive0 : ∀ c, (st.bx c).isSome = true → (Be st.bx (newB (nt b ns) ns rv ++ GQ [b]) c).isSome = true := fun c hc => Ly hc
  have hdom : ∀ c, c < rv.length → (Be st.bx (newB (nt b ns) ns rv ++ GQ [b]) (nt b ns c)).isSome = true := by
   intro c hb
   rw [hbx', QI (by omega), (hng (nm ns c)).2 c _ (show rv[c]? = some rv[c] by simp [hb])]; rfl
  have hxn0 : ∀ x, x ∈ rv → x.names = [] := fun x hx => List.isEmpty_iff.1 (uX.1 hnmV x hx)
  have hrenB : ∀ x, x ∈ rv → (x.ren (nt b ns)).names = [] := by
   intro x hx
   have h0 := hxn0 x hx
   cases x with
   | box cs =>
    refine zF0.2 fun c hc => ?_
    obtain ⟨c1, hc1, hb⟩ := Bp.1 hc
    obtain ⟨c0, h1, rfl⟩ := zA6.1 hc1
    obtain ⟨b0, h2, h3⟩ := Jx hb
    have : b0 ∈ Er cs := Bp.2 ⟨c0, h1, h2⟩
    have h0 : Er cs = [] := h0
    rw [h0] at this; cases this
   | hol e cols i0 k0 c rs => simp [BP.names] at h0
   | _ => rfl
  have hhasN : ∀ m β, m < ns.length → (G2.has (nm ns m) β ↔ G'.has m β) := fun m β hm => by
   have := hvia.has (β := β) (show m < rv.length by omega)
   rwa [QI (by omega)] at this
  have hnk : ∀ m, m < ns.length → BZ (nm ns m) = BZ b ∧ Nc (nm ns m) = false := fun m hm => by
   have := uX.1 hkind _ (Fq hm)
   rw [uV] at this
   exact ⟨beq_iff_eq.1 this.1, by simpa using this.2⟩
  have key : DP P X G2 ⟨st.env, Be st.bx (newB (nt b ns) ns rv ++ GQ [b])⟩ a w' := by
   refine hs.frameF hlive0 hext hwS ?_ ?_ ?_ ?_ ?_ ?_ (fun c hc => by
    have : c ∉ ns := fun hm => by
     obtain ⟨m, hm1, rfl⟩ := LM hm
     rw [(hnk m hm1).2] at hc; cases hc
    simp only [G2]; rw [if_neg this, if_neg this, if_neg this]; exact ⟨rfl, rfl, rfl⟩)
   ·intro c k hc
    rcases hblk c k hc with ⟨_, rfl, rfl⟩ | ⟨_, h0, h1⟩ | ⟨m, x, h1, h2, h3, h4⟩
    ·exact .inr ⟨trivial, fun c hc => by cases hc⟩
    ·exact .inl ⟨h1, fun β hr hβ => hbel.block β (hs.at_ok c k β h1 hr hβ).2.1 fun hL => h0 (hs.at_inj _ _ _ _ β h1 hbb hr htk.1 hβ hL)⟩
    ·subst h4
     have hxm := lM h3
     refine .inr ⟨?_, fun c' hc' => ?_⟩
     ·have := (hvec m x h3).ren hvia (show m < rv.length by omega) (fun c hc => by rw [hxn0 x hxm] at hc; cases hc)
      rwa [QI (by omega), h2] at this
     ·rw [hrenB x hxm] at hc'; cases hc'
   ·intro c k β hc hr hβ
    rcases hblk c k hc with ⟨_, rfl, rfl⟩ | ⟨_, h0, h1⟩ | ⟨m, x, h1, h2, h3, h4⟩
    ·cases hr
    ·have hβ := (hext.has (by rw [h1]; rfl)).1 hβ
     have := hs.at_ok c k β h1 hr hβ
     refine ⟨this.1, by omega, fun h => ?_⟩
     rcases hS2 β h with h | h
     ·exact this.2.2 h
     ·omega
    ·rw [← h2, hhasN m β h1] at hβ
     have := hvat m β (by omega) hβ
     have hk := (hnk m h1).1
     rw [h2] at hk
     refine ⟨?_, this.2.1, this.2.2⟩
     rcases this.1 with h5 | h5
     ·exact ⟨fun _ => by omega, .inl (by omega)⟩
     ·have h6 := (hatb β h5).1
      exact ⟨fun hf => h6.1 (hk ▸ hf), h6.2⟩
   ·intro c c' k k' β hc hc' hr hr' hβ hβ'
    have old : ∀ c k, Be st.bx (newB (nt b ns) ns rv ++ GQ [b]) c = some k → k.real = true → G2.has c β → (c ≠ b ∧ st.bx c = some k ∧ G.has c β) ∨ ∃ m, m < ns.length ∧ nm ns m = c ∧ G'.has m β := by
     intro c k hc hr hβ
     rcases hblk c k hc with ⟨_, rfl, rfl⟩ | ⟨_, h0, h1⟩ | ⟨m, x, h1, h2, h3, h4⟩
     ·cases hr
     ·exact .inl ⟨h0, h1, (hext.has (by rw [h1]; rfl)).1 hβ⟩
     ·rw [← h2, hhasN m β h1] at hβ
      exact .inr ⟨m, h1, h2, hβ⟩
    have cross : ∀ c k m, c ≠ b → st.bx c = some k → k.real = true → G.has c β → m < ns.length → G'.has m β → False := by
     intro c k m h0 h1 h2 h3 hm h5
     have h6 := hvat m β (by omega) h5
     have h7 := (hs.at_ok c k β h1 h2 h3).2.1
     rcases h6.1 with h | h
     ·omega
     ·exact h0 (hs.at_inj _ _ _ _ β h1 hbb h2 htk.1 h3 h)
    rcases old c k hc hr hβ with ⟨h0, h1, h3⟩ | ⟨m, h1, h2, h3⟩ <;> rcases old c' k' hc' hr' hβ' with ⟨h0', h1', h3'⟩ | ⟨m', h1', h2', h3'⟩
    ·exact hs.at_inj c c' k k' β h1 h1' hr hr' h3 h3'
    ·exact (cross c k m' h0 h1 hr h3 h1' h3').elim
    ·exact (cross c' k' m h0' h1' hr' h3' h1 h3).elim
    ·have := hvinj m m' β (by omega) (by omega) h3 h3'
     rw [← h2, ← h2', this]
   ·intro β h
    rcases hS2 β h with h | h
    ·have := hs.S_lt β h; omega
    ·exact h.2
   ·intro β h
    rcases hS2 β h with h | h
    ·exact hs.S_src β h
    ·exact .inr (by omega)
   ·refine hs.below.trans ⟨hbel.os, hbel.tape, hbel.output, hbel.size, hbel.drawn, fun k hk hnl => hbel.block k (by omega) fun hL => ?_⟩
    rcases (hatb k hL).1.2 with h | h
    ·omega
    ·exact hnl h
  have hrn : ∀ c, c ∈ res.names → c < rv.length := fun c hc => by
   have := uX.1 hnmR c hc
   rwa [zD7] at this
  refine hK _ _ ⟨G2, key.put (some s) (some (res.ren (nt b ns))) v (by intro t e; cases e; exact hn) ?_⟩
  rintro d ⟨⟩
  refine ⟨hres'.ren hvia hrn, fun c hb => ?_⟩
  obtain ⟨b0, h1, h2⟩ := JB hb
  rw [h2]
  exact hdom b0 (hrn b0 h1)
end run
end Go.Lift
namespace Go.Lift
open Go.RowKit
variable {P : Program} {X : Io} {ops : Array Oper}
end Go.Lift
namespace Go.Lift
open Go.RowKit
variable {P : Program} {X : Io} {ops : Array Oper}
section run
variable {dr : Bool} {Q : St → Prop} {r i : Nat} {st : St} {log : List (Nat × CV)} {o : Oper} {gs : List (Operand × D)}
end run
end Go.Lift
namespace Go.Lift
open Go.RowKit
variable {P : Program} {X : Io} {ops : Array Oper}
section run
variable {dr : Bool} {Q : St → Prop} {r i : Nat} {st : St} {log : List (Nat × CV)} {o : Oper} {gs : List (Operand × D)}
end run
end Go.Lift
namespace Go.Lift
open Go.RowKit
variable {P : Program} {X : Io} {ops : Array Oper}
section run
variable {dr : Bool} {Q : St → Prop} {r i : Nat} {st : St} {log : List (Nat × CV)} {o : Oper} {gs : List (Operand × D)}
end run
end Go.Lift
namespace Go.Lift
open Go.RowKit
variable {P : Program} {X : Io} {ops : Array Oper}
section run
variable {dr : Bool} {Q : St → Prop} {r i : Nat} {st : St} {log : List (Nat × CV)} {o : Oper} {gs : List (Operand × D)}
end run
end Go.Lift
namespace Go.Lift
open Go.RowKit
variable {P : Program} {X : Io}
theorem Bb {α : Type} {c : Operand} {x y : Code} {Q : Exit → St → Prop} {st : St} {b : Bool} {e1 e2 : Option α} {v : α} (h : AN b e1 e2 = some v) (ht : e1 = some v → W P X x Q st) (hf : e2 = some v → W P X y Q st) (hc : opd st.env c = some (bD b) := by exact rfl) : W P X (.cond c x y) Q st :=
 Yq hc (fun k => ht (Xk k h)) (fun k => hf (XK k h))
theorem Eh {ops : Array Oper} {dr : Bool} {Q : St → Prop} {r i : Nat} {st : St} {log : List (Nat × CV)} {α : Type} {b : Bool} {e1 e2 : Option α} {v : α} (t : Nat) (h : AN b e1 e2 = some v) (hx : st.env t = some (bD b)) (h1 : e1 = some v → Bd P X ops dr Q r i (St.put st (some t) (some (bD true))) log) (h2 : e2 = some v → Bd P X ops dr Q r i (St.put st (some t) (some (bD false))) log) : Bd P X ops dr Q r i st log :=
 Wb hx (fun k => h1 (Xk k h)) (fun k => h2 (XK k h))
theorem sn {V R : Type} {J : V → Option R} {r : R} {S : V → St} {s : St} {v : V} {el : List (Nat × D)} {bl : List (Nat × BP)} (l : List (Nat × Nat)) (h : J v = some r) (e : S v = mk el bl := by exact rfl) (h1 : (ZV s.env el, Y0 (rn l) s.bx bl) = (Z2 (rn l) el, ZX (rn l) bl) := by exact rfl) (h2 : ((Iz ((FK bl).map (rn l)) && MU (rn l) (FK bl)) && (Pp (FK bl) el && Pj (FK bl) bl)) = true := by exact rfl) : ∃ v, J v = some r ∧ GM P X s (S v) :=
 ⟨v, h, e ▸ sm l el bl h1 h2⟩
theorem bC {y : Code} {id : Nat} {ops : Array Oper} {dr : Bool} {Q : Exit → St → Prop} {st : St} {n : Nat} (hm : P.follows .mixedOrders = true) (hn : ops.size = n)
  (h : Bd P X ops dr (fun st' => W P X y Q st') n 0 st []) : W P X (.seq (.region id ops dr) y) Q st :=
 AS (Ah hm hn h)
theorem B3 {G : Prop} {α β : Type} {xs : List α} {i : Int} {f : α → Option β} {r : β} (h : (BB xs i).bind f = some r) (k : ∀ x, 0 ≤ i → xs[i.toNat]? = some x → f x = some r → G) : G := by
 obtain ⟨x, a, b, c⟩ := UG h
 exact k x a b c
theorem BV {G : Prop} {α β : Type} {x : Option α} {f : α → Option β} {r : β} (h : x.bind f = some r) (k : ∀ a, x = some a → f a = some r → G) : G := by
 obtain ⟨a, b, c⟩ := bind_some h
 exact k a b c
theorem F4 {G : Prop} {β : Type} {p : Prop} [Decidable p] {f : Unit → Option β} {r : β} (h : (DQ p).bind f = some r) (k : p → f () = some r → G) : G := k (ET h).1 (ET h).2
section
variable {ops : Array Oper} {dr : Bool} {Q : St → Prop} {r i : Nat} {st : St} {log : List (Nat × CV)} {gs : List (Operand × D)}
theorem qe {x : Operand} {d : D} {s : Nat} (h : (hd st.env ops i X.n, opd st.env x) = (some (.assign x, s, gs), some d)) (k : Q (CV.upd ⟨gs ++ [(x, d)], [], some s, some d, [], []⟩ st)) : Bd P X ops false Q (0 + 1) i st log :=
 qa h (Ac k)
def Us (n : Nat) (ops : Array Oper) (i : Nat) (st : St) : Option CV :=
 match (match X8 ops i n with
  | some (_, s, t, want) => (match st.env t with
   | some (.e (.one (.pure (.val (.bool b))))) => (match b, want with
    | true, false => some (s, t, want)
    | false, true => some (s, t, want)
    | _, _ => none)
   | _ => none)
  | none => none) with
 | some (s, t, want) => some ⟨[(.tmp t, bD (!want))], [], some s, some uD, [], []⟩
 | none => match hd st.env ops i n with
  | some (.move x, s, gs) => (opd st.env x).map fun d => ⟨gs ++ [(x, d)], [], some s, some d, [], []⟩
  | _ => none
def Yg (n : Nat) (ops : Array Oper) : Nat → Nat → St → List (Nat × CV) → Option (St × List (Nat × CV))
 | 0, _, st, log => some (st, log)
 | k + 1, i, st, log => match Us n ops i st with
  | none => none
  | some l => Yg n ops k (i + 1) (CV.upd l st) ((i, l) :: log)
theorem Vu {l : CV} (h : Us X.n ops i st = some l) (next : Nx P X ops dr Q r i st log l) : Bd P X ops dr Q (r + 1) i st log := by
 unfold Us at h
 split at h
 ·rename_i s t want hh
  split at hh
  ·rename_i j s' t' want' ha
   split at hh
   ·rename_i b hb
    split at hh
    ·cases hh; cases h; exact qn (want := false) (by rw [ha, hb]; rfl) next
    ·cases hh; cases h; exact qn (want := true) (by rw [ha, hb]; rfl) next
    ·cases hh
   ·cases hh
  ·cases hh
 ·split at h
  ·rename_i x s gs' hh
   cases hd' : opd st.env x with
   | none => rw [hd'] at h; cases h
   | some d =>
    rw [hd'] at h
    cases h
    exact qm (by rw [hh, hd']) next
  ·cases h
theorem qw (k : Nat) {st' : St} {log' : List (Nat × CV)} (h : Yg X.n ops k i st log = some (st', log')) (next : Bd P X ops dr Q r (i + k) st' log') : Bd P X ops dr Q (r + k) i st log := by
 induction k generalizing i st log with
 | zero => cases h; exact next
 | succ k ih =>
  rw [Yg] at h
  split at h
  ·cases h
  ·rename_i l hl
   exact Vu hl (ih h (by rwa [zC9, Nat.add_comm 1]))
end
theorem cw {f n : Nat} {fn : Func} {c : Code} {args : List D} {rv : List (Nat × List (List T))} {res : D} {rs : List ResultVar} (hf : P.funcs[f]? = some fn)
  (h : ∀ (w0 : World) (S0 : Nat → Prop), W P ⟨w0, S0, n, G0 S0⟩ c (fun e st => match e with | .normal | .ret => VM P rs st rv res | _ => False) (Yb args))
  (hb : fn.body = some c := by exact rfl) (hn : fn.ntmps = n := by exact rfl) (hrs : fn.results.toList = rs := by exact rfl) (hl : args.length ≤ n := by exact IU rfl) (hn9 : n ≤ 90000 := by exact IU rfl) (hpub : args.all RJ = true := by exact rfl) : Ar P f args rv res :=
 Pd hf hb hn hrs hl hn9 hpub h
theorem tm {st : St} {t : Nat} {x : E} (h : st.env t = some (.e x) := by exact rfl) : YY P st [.tmp t] [x] := ⟨.tmp _ _ h, trivial⟩
end Go.Lift
namespace Go.Lift
open List renaming mem_of_getElem? → lM
open List renaming getD_eq_getElem?_getD → lD
open Go.RowKit Go.Shelf
theorem UX {w w' : World} (h : VO w.heap.size w w') : ∃ q os, w' = Go.Sort.grow (w.drewN q) os := by
 refine ⟨w'.drawn - w.drawn, w'.heap.extract w.heap.size w'.heap.size, ?_⟩
 have hh : w'.heap = w.heap ++ w'.heap.extract w.heap.size w'.heap.size := by
  apply Array.ext_getElem?
  intro k
  rw [zF8]
  split
  ·rename_i hk; exact h.block k hk
  ·rename_i hk
   rw [Array.getElem?_extract]
   have := h.size
   split
   ·congr 1; omega
   ·rw [zA8]; omega
 have hd : w.drawn ≤ w'.drawn := h.drawn rfl
 have ht := h.tape
 have ho := h.os
 have hu := h.output
 obtain ⟨hp', tp', dr', os', ou'⟩ := w'
 obtain ⟨hp, tp, dr, os, ou⟩ := w
 simp only at hh hd ht ho hu
 subst ht; subst ho; subst hu
 simp only [Go.Sort.grow, World.drewN, World.mk.injEq, and_true, true_and]
 exact ⟨hh, by omega⟩
def Sw {α : Type} (c : α → α → Int) (x y : α) : Prop := c x y < 0 ∧ 0 < c y x
structure Ms {α : Type} (c : α → α → Int) (M : α → Prop) : Prop where
 self : ∀ x, M x → c x x = 0
 tri : ∀ x y, M x → M y → x = y ∨ Sw c x y ∨ Sw c y x
 trans : ∀ x y z, M x → M y → M z → Sw c x y → Sw c y z → Sw c x z
namespace Ms
variable {α : Type} {c : α → α → Int} {M : α → Prop}
theorem lt (O : Ms c M) {x y : α} (hx : M x) (hy : M y) : c x y < 0 ↔ Sw c x y := by
 refine ⟨fun h => ?_, fun h => h.1⟩
 rcases O.tri x y hx hy with e | e | e
 ·subst e; have := O.self x hx; omega
 ·exact e
 ·have := e.2; omega
theorem asym {x y : α} (h : Sw c x y) (k : Sw c y x) : False := by have := h.1; have := k.2; omega
theorem eq (O : Ms c M) {x y : α} (hx : M x) (hy : M y) (h : ¬ c x y < 0) (k : ¬ c y x < 0) : x = y := by
 rcases O.tri x y hx hy with e | e | e
 ·exact e
 ·exact absurd e.1 h
 ·exact absurd e.1 k
theorem ntrans (O : Ms c M) {x y z : α} (hx : M x) (hy : M y) (hz : M z) (h : ¬ c x y < 0) (k : ¬ c y z < 0) : ¬ c x z < 0 := by
 rw [O.lt hx hy] at h; rw [O.lt hy hz] at k; rw [O.lt hx hz]
 intro q
 have h' : x = y ∨ Sw c y x := by rcases O.tri x y hx hy with e | e | e; exact .inl e; exact absurd e h; exact .inr e
 have k' : y = z ∨ Sw c z y := by rcases O.tri y z hy hz with e | e | e; exact .inl e; exact absurd e k; exact .inr e
 rcases h' with e | e
 ·subst e; exact k q
 ·rcases k' with f | f
  ·subst f; exact asym q e
  ·exact asym q (O.trans z y x hz hy hx f e)
end Ms
theorem Tk {α : Type} {c : α → α → Int} : ∀ (a b : List α), (∀ x y, x ∈ a → y ∈ a → ¬ c x y < 0 → ¬ c y x < 0 → x = y) → a.Perm b → a.Pairwise (fun x y => ¬ c y x < 0) → b.Pairwise (fun x y => ¬ c y x < 0) → a = b
 | [], b, _, h, _, _ => (List.nil_perm.1 h).symm
 | x :: xs, [], _, h, _, _ => by cases List.perm_nil.1 h
 | x :: xs, y :: ys, hE, h, ha, hb => by
  obtain ⟨a1, a2⟩ := zC3.1 ha
  obtain ⟨b1, b2⟩ := zC3.1 hb
  have exy : x = y := by
   rcases vI.1 (h.mem_iff.1 (List.mem_cons_self : x ∈ x :: xs)) with e | e
   ·exact e
   rcases vI.1 (h.mem_iff.2 (List.mem_cons_self : y ∈ y :: ys)) with f | f
   ·exact f.symm
   exact hE x y (by simp) (by simp [f]) (b1 x e) (a1 y f)
  subst exy
  rw [Tk xs ys (fun u v hu hv => hE u v (by simp [hu]) (by simp [hv])) (List.perm_cons x |>.1 h) a2 b2]
section
variable {P : Program} {ρ : Ren} {α : Type}
theorem Jr {β' : Type} [Inhabited β'] (enc : β' → List Value) (k : Nat) (w : World) (β m : Nat) (d : Array β') (os : Array Obj) {γ : Nat} (h : γ < w.heap.size) (hne : γ ≠ β) : (Go.Proofs.sortWorldK enc k w β 0 m d os).heap[γ]? = w.heap[γ]? := by
 unfold Go.Proofs.sortWorldK Go.Sort.grow Go.Sort.putRowK Go.Sort.putRow Go.Sort.mapBlock Go.Sort.ahead
 simp only
 rw [zF8, if_pos (by simpa using h), zG7, if_neg (Ne.symm hne)]
theorem Ro {β' : Type} [Inhabited β'] (enc : β' → List Value) (k : Nat) (w : World) (β m : Nat) (d : Array β') (os : Array Obj) {arr : Array Value} {el : TypeId} {fz : Nat × Nat} (h : w.heap[β]? = some (.cells arr el fz)) : (Go.Proofs.sortWorldK enc k w β 0 m d os).heap[β]? = some (.cells (Go.Sort.putCells id 0 (Go.Sort.flatK enc k d) arr) el fz) := by
 unfold Go.Proofs.sortWorldK Go.Sort.grow Go.Sort.putRowK Go.Sort.putRow Go.Sort.mapBlock Go.Sort.ahead
 simp only
 have hlt : β < w.heap.size := (Array.getElem?_eq_some_iff.1 h).1
 rw [zF8, if_pos (by simpa using hlt), zG7, if_pos rfl, h]
 rfl
theorem OP {β' : Type} [Inhabited β'] (enc : β' → List Value) (k : Nat) (w : World) (β m : Nat) (d : Array β') (os : Array Obj) : w.heap.size ≤ (Go.Proofs.sortWorldK enc k w β 0 m d os).heap.size := by
 unfold Go.Proofs.sortWorldK Go.Sort.grow Go.Sort.putRowK Go.Sort.putRow Go.Sort.mapBlock Go.Sort.ahead
 simp
theorem Su (L : Go.Proofs.SlLaysF0.n6 P ρ) (k : Nat) (aE : ∀ w, (isAgg (ρ.t 24)).run P w = .ok true w) (zE : ∀ w, (Go.sizeOf (ρ.t 24)).run P w = .ok k w) {e : α → List T} {g : List (Bool × List T) → Option T} {c : α → α → Int} {xs ys : List α}
  (hg : ∀ x y, x ∈ xs → y ∈ xs → g [(true, e x), (true, e y)] = some (.val (.int .i64 (c x y)))) (O : Ms c (· ∈ xs)) (hp : ys.Perm xs) (hs : ys.Pairwise fun x y => ¬ c y x < 0) (hl : xs.length < 4611686018427387904) :
  DS P (ρ.f 6) [.e (.one (.own 90000)), .e (.one (.clo g))] [(.vec k (xs.map e), .vec k (ys.map e))] [] (.tup []) := by
 intro w G vs hS hgk hlb hla hli hlen hrd
 have hb := hlb 0 _ rfl
 have h0 : Fv P w G (Au vs 0) (.own 90000) := hrd 0 _ rfl
 obtain ⟨f, caps, hv, ⟨fn, hf1, hf2, hf3⟩, hcall⟩ : Nb P w G.S (Au vs 1) g := hrd 1 _ rfl
 have hvs : vs = #[Au vs 0, Au vs 1] := by
  have h2 : vs.size = 2 := hlen
  apply Array.ext (by simp [h2])
  intro i h1 _
  match i, h1 with
  | 0, h1 => simp [Au, h1]
  | 1, h1 => simp [Au, h1]
  | i + 2, h1 => omega
 have hys : ys.length = xs.length := hp.length_eq
 rw [hvs, h0.1, hv]
 by_cases hx0 : xs = []
 ·subst hx0
  have hy : ys = [] := List.perm_nil.1 hp
  subst hy
  obtain ⟨p, cap, hh⟩ : ∃ p cap, G.hd 90000 = .slice p 0 cap := by
   rcases hb with ⟨a, b1, _, _⟩ | ⟨β, cap, arr, el, _, b1, _⟩
   ·exact ⟨_, _, b1⟩
   ·exact ⟨_, _, b1⟩
  rw [hh]
  refine (Go.Proofs.AnyF.slices_SortFunc_none L p cap _ w).mono ?_
  rintro e' w' ⟨rfl, rfl⟩
  refine ⟨_, G, rfl, C9.refl _ _ _, fun _ h => h, fun _ h => .inl h, ⟨#[], rfl, rfl, fun j x hj => by simp at hj⟩, fun i x hi => ?_, fun i x hi => by simp at hi, fun _ _ => ⟨rfl, rfl, rfl⟩, fun i β hi h => (hla i β hi h).2, fun i β hi => by simp at hi, fun i l β hi => by simp at hi⟩
  match i, hi with
  | 0, hi => cases hi; exact hb
  | i + 1, hi => simp at hi
 ·rcases hb with ⟨a, b1, b2, b3⟩ | ⟨β, cap, arr, el, b0, b1, b2, b3, b4, b5, b6⟩
  ·exact absurd (zH1.1 b2) hx0
  ·have hβ : β < w.heap.size ∧ ¬ G.S β := hla 0 β (by simp) (.inl b0)
   have hek : ∀ x, x ∈ xs → (e x).length = k := fun x hx => by
    obtain ⟨i, hi, rfl⟩ := List.mem_iff_getElem.1 hx
    exact b5 i _ (by simp [hi])
   -- the elements with their cells
   let A := { p : List Value × α // p.2 ∈ xs ∧ p.1.length = k ∧ ∀ (j : Nat) (t : T), (e p.2)[j]? = some t → D3 w G.S (p.1.getD j undef) t }
   let at' : Fin xs.length → A := fun i => ⟨((vK k).map fun j => Au arr (i.1 * k + j), xs[i.1]), zB2 i.2, by simp, fun j t hj => by
    have hjk : j < k := by rw [← hek xs[i.1] (zB2 i.2)]; exact AK hj
    have := b6 i.1 (e xs[i.1]) j t (by simp) hj
    simpa [hjk] using this⟩
   have hpos : 0 < xs.length := List.length_pos_iff.2 hx0
   letI : Inhabited A := ⟨at' ⟨0, hpos⟩⟩
   let d : Array A := Array.ofFn at'
   have hds : d.size = xs.length := by simp [d]
   have hdg : ∀ i (h : i < xs.length), d[i]! = at' ⟨i, h⟩ := fun i h => by rw [getElem!_pos d i (by omega)]; simp [d]
   have hdl : d.toList.map (fun x => x.1.2) = xs := by
    apply List.ext_getElem
    ·simp [hds]
    ·intro i h1 h2
     simp [d, at']
   let enc : A → List Value := fun x => x.1.1
   have hk : ∀ x : A, (enc x).length = k := fun x => x.2.2.1
   have h1c : ∀ x : A, ∀ v ∈ enc x, v.oneCell' = true := by
    intro x v hv
    obtain ⟨j, hj, rfl⟩ := List.mem_iff_getElem.1 hv
    have hje : j < (e x.1.2).length := by rw [hek _ x.2.1, ← hk x]; exact hj
    have := (x.2.2.2 j _ (vP hje)).one
    rw [lD, vP hj] at this
    revert this
    show Hd (enc x)[j] = true → _
    generalize (enc x)[j] = q
    intro h
    cases q <;> first | rfl | cases h
   let cf : A → A → Int := fun x y => c x.1.2 y.1.2
   have hlt : ∀ x y : A, Go.Proofs.ltOf cf x y = decide (c x.1.2 y.1.2 < 0) := fun _ _ => rfl
   have hO : Go.Sort.SWO (Go.Proofs.ltOf cf) := by
    refine ⟨fun x => ?_, fun x y z => ?_, fun x y z => ?_⟩
    ·rw [hlt, O.self _ x.2.1]; rfl
    ·rw [hlt, hlt, hlt]; intro h1 h2
     have h1 := (O.lt x.2.1 y.2.1).1 (of_decide_eq_true h1)
     have h2 := (O.lt y.2.1 z.2.1).1 (of_decide_eq_true h2)
     exact decide_eq_true (O.trans _ _ _ x.2.1 y.2.1 z.2.1 h1 h2).1
    ·rw [hlt, hlt, hlt]; intro h1 h2
     exact decide_eq_false (O.ntrans x.2.1 y.2.1 z.2.1 (of_decide_eq_false h1) (of_decide_eq_false h2))
   have eg : ∀ args w, (callFunc f args).run P w = .ok (.enter f args) w := IN (by unfold AF; rw [hf1]; simp [hf2]; simpa using hf3)
   have hcmp : Go.Proofs.CmpLays P f caps enc k cf β 0 d.size w := by
    intro m os dk hdk x y
    refine (hcall _ G.S (fun _ h => h) (fun γ hγ => Jr enc k w β m dk os (hS γ hγ) (fun q => hβ.2 (q ▸ hγ))) (fun γ hγ => Nat.lt_of_lt_of_le (hS γ hγ) (OP enc k w β m dk os)) (hgk.mono (fun γ hγ => Jr enc k w β m dk os (hS γ hγ) (fun q => hβ.2 (q ▸ hγ))) (fun _ h => h)) #[.agg (enc x).toArray, .agg (enc y).toArray] [(true, e x.1.2), (true, e y.1.2)] _ rfl ?_ (hg _ _ x.2.1 y.2.1)).mono ?_
    ·have one : ∀ z : A, Yp (Go.Proofs.sortWorldK enc k w β 0 m dk os) G.S (.agg (enc z).toArray) (true, e z.1.2) := fun z => by
      refine ⟨_, rfl, by simp [hk, hek _ z.2.1], fun j t hj => ?_⟩
      have := z.2.2.2 j t hj
      have e1 : Au (enc z).toArray j = z.1.1.getD j undef := by simp [Au, enc, lD]
      rw [e1]
      exact this.mono (fun γ hγ => Jr enc k w β m dk os (hS γ hγ) (fun q => hβ.2 (q ▸ hγ))) (fun _ h => h)
     intro j q hq
     match j, hq with
     | 0, hq => cases hq; exact one x
     | 1, hq => cases hq; exact one y
     | j + 2, hq => simp at hq
    ·rintro e' w'' ⟨v', S'', rfl, hbel, _, _, hr⟩
     cases hr
     exact ⟨rfl, UX hbel⟩
   have hH : Go.Sort.HoldsK enc k w β 0 d := by
    intro j hj
    have hj' : j < xs.length * k := by simpa [hds] using hj
    have hk0 : 0 < k := zG9 fun h => by rw [h] at hj'; simp at hj'
    have hi : j / k < xs.length := Nat.div_lt_of_lt_mul (by rwa [Nat.mul_comm] at hj')
    have hm : j % k < k := Nat.mod_lt _ hk0
    have hsz : j < arr.size := by
     have h3 : (xs.map e).length ≤ cap := b3
     rw [vT] at h3
     have := uU k h3
     omega
    have hval : (Go.Sort.flatK enc k d)[j]! = Au arr j := by
     rw [Go.Sort.get_flatK enc k d j (by rw [hds]; exact hj'), hdg _ hi]
     simp only [enc, at']
     rw [getElem!_pos _ _ (by simp [hm])]
     simp only [List.getElem_map, List.getElem_range]
     rw [Nat.div_add_mod']
    rw [hval, uT]
    refine ⟨by simp [World.cell?, b2, Ij hsz], by simp [World.frozen?, b2]⟩
   have hhd : G.hd 90000 = .slice (some ⟨β, 0, none⟩) d.size cap := by rw [b1, hds, vT]
   rw [hhd]
   refine (Go.Proofs.AnyQ.slices_SortFunc L k aE zE enc hk h1c cf hO f caps β 0 cap d w eg hcmp hH hβ.1 (by rw [hds]; exact hl)).mono ?_
   rintro e' w' ⟨rfl, d', n, os, hpm, hsd, rfl⟩
   have hds' : d'.size = d.size := hpm.1
   have hpl : d'.toList.Perm d.toList := by
    have h := hpm.2.2
    have e1 : (d'.extract 0 d.size).toList = d'.toList := by rw [← hds']; simp
    have e2 : (d.extract 0 d.size).toList = d.toList := by simp
    rwa [e1, e2] at h
   have hlist : d'.toList.map (fun x => x.1.2) = ys := by
    refine Tk (c := c) _ _ (fun x y hx hy h1 h2 => ?_) (((hpl.map _).trans (by rw [hdl])).trans hp.symm) ?_ hs
    ·obtain ⟨a, _, rfl⟩ := zA6.1 hx
     obtain ⟨b, _, rfl⟩ := zA6.1 hy
     exact O.eq a.2.1 b.2.1 h1 h2
    ·rw [List.pairwise_map, zE3]
     intro i j hi hj hij
     have := hsd i j (vG _) hij (by rw [← hds']; simpa using hj)
     rw [getElem!_pos d' i (by simpa using hi), getElem!_pos d' j (by simpa using hj), hlt] at this
     simpa using of_decide_eq_false this
   have hat : (Go.Proofs.sortWorldK enc k w β 0 n d' os).heap[β]? = some (.cells (Go.Sort.putCells id 0 (Go.Sort.flatK enc k d') arr) el (0, 0)) := Ro enc k w β n d' os b2
   have hlen' : d'.size = ys.length := by rw [hds', hds, hys]
   refine ⟨_, G, rfl, ⟨rfl, rfl, rfl, OP enc k w β n d' os, .of (by show w.drawn ≤ w.drawn + n; omega), fun γ hγ hL => Jr enc k w β n d' os hγ fun q => hL ⟨0, by simp, .inl (q ▸ b0)⟩⟩, fun _ h => h, fun _ h => .inl h, ⟨#[], rfl, rfl, fun j x hj => by simp at hj⟩, fun i x hi => ?_, fun i x hi => by simp at hi, fun _ _ => ⟨rfl, rfl, rfl⟩, fun i γ hi h => (hla i γ hi h).2, fun i γ hi => by simp at hi, fun i l γ hi => by simp at hi⟩
   match i, hi with
   | i + 1, hi => simp at hi
   | 0, hi =>
    cases hi
    refine .inr ⟨β, cap, _, el, b0, by rw [hhd, hds, vT, hys], hat, by rw [vT, hys]; simpa using b3, by simpa [Go.Sort.putCells] using b4, ?_, ?_⟩
    ·intro i row hi
     obtain ⟨x, hx, rfl⟩ : ∃ x, x ∈ ys ∧ e x = row := by
      rw [vC] at hi
      cases hq : ys[i]? with
      | none => rw [hq] at hi; cases hi
      | some x => rw [hq] at hi; cases hi; exact ⟨x, lM hq, rfl⟩
     exact hek x (hp.mem_iff.1 hx)
    ·intro i row j t hi hj
     rw [vC] at hi
     cases hq : ys[i]? with
     | none => rw [hq] at hi; cases hi
     | some x =>
      rw [hq] at hi; cases hi
      have hil : i < d'.size := by rw [hlen']; exact AK hq
      have hxm : x ∈ xs := hp.mem_iff.1 (lM hq)
      have hjk : j < k := by rw [← hek x hxm]; exact AK hj
      have hx : (d'[i]!).1.2 = x := by
       rw [← hlist, vC] at hq
       rw [getElem!_pos d' i hil]
       rw [show d'.toList[i]? = some d'[i] from by simp [hil]] at hq
       simpa using hq
      have hr := (d'[i]!).2.2.2 j t (by rw [hx]; exact hj)
      have hij : i * k + j < d'.size * k := by
       have := uU k (show i + 1 ≤ d'.size from hil)
       rw [vU, Nat.one_mul] at this; omega
      have hasz : i * k + j < arr.size := by
       have h3 : (xs.map e).length ≤ cap := b3
       rw [vT] at h3
       have h4 := uU k h3
       rw [hlen', hys] at hij
       omega
      have d1 : (i * k + j) / k = i := (Go.Sort.blk_iff k i _ (by omega)).1 ⟨by omega, by omega⟩
      have d2 : (i * k + j) % k = j := by rw [Nat.mod_eq_sub_div_mul, d1]; omega
      have hcell : Au (Go.Sort.putCells id 0 (Go.Sort.flatK enc k d') arr) (i * k + j) = (d'[i]!).1.1.getD j undef := by
       unfold Au Go.Sort.putCells
       rw [Array.getElem?_mapIdx, show arr[i * k + j]? = some (Au arr (i * k + j)) from Ij hasz]
       simp only [zC2, vW, vG, true_and, uT, Nat.sub_zero, Go.Sort.size_flatK]
       rw [if_pos hij]
       simp only [id]
       rw [Go.Sort.get_flatK enc k d' _ hij, d1, d2, lD, getElem!_pos _ _ (by rw [hk]; exact hjk), vP (by rw [show (d'[i]!).1.1.length = k from hk _]; exact hjk)]
       rfl
      rw [hcell]
      exact hr.mono (fun γ hγ => Jr enc k w β n d' os (hS γ hγ) (fun q => hβ.2 (q ▸ hγ))) (fun _ h => h)
end
end Go.Lift
namespace Go.Lift
open Go.RowKit Go.Shelf
section
variable {α : Type}
def V8 (cmp : α × α → Option Int) (x : α) : List α → List α
 | [] => [x]
 | y :: ys => match cmp (x, y) with
  | some a => if a ≤ 0 then x :: y :: ys else y :: V8 cmp x ys
  | none => x :: y :: ys
def Uz (cmp : α × α → Option Int) (xs : List α) : List α := xs.foldr (V8 cmp) []
def Ul (cmp : α × α → Option Int) (bq : α → α → Bool) (y z : α) : Bool := match cmp (y, z), cmp (z, y) with
 | some a, some b => (decide (a < 0) && decide (0 < b)) || (bq y z && decide (a = 0) && decide (b = 0))
 | _, _ => false
def aa (cmp : α × α → Option Int) (bq : α → α → Bool) : List α → Bool
 | [] => true
 | y :: ys => (match cmp (y, y) with | some a => decide (a = 0) | none => false) && ys.all (Ul cmp bq y) && aa cmp bq ys
def RN (cmp : α × α → Option Int) (bq : α → α → Bool) (xs : List α) : Option (List α) :=
 if aa cmp bq (Uz cmp xs) && decide (xs.length < 4611686018427387904) then some (Uz cmp xs) else none
theorem P0 (cmp : α × α → Option Int) (x : α) : ∀ l : List α, (V8 cmp x l).Perm (x :: l)
 | [] => List.Perm.refl _
 | y :: ys => by
  unfold V8
  split
  ·split
   ·exact List.Perm.refl _
   ·exact ((P0 cmp x ys).cons y).trans (List.Perm.swap x y ys)
  ·exact List.Perm.refl _
theorem Po (cmp : α × α → Option Int) : ∀ l : List α, (Uz cmp l).Perm l
 | [] => List.Perm.refl _
 | x :: l => (P0 cmp x (Uz cmp l)).trans ((Po cmp l).cons x)
theorem VY {cmp : α × α → Option Int} {bq : α → α → Bool} (hq : ∀ x y, bq x y = true → x = y) {y z : α} (h : Ul cmp bq y z = true) :
  ∃ a b, cmp (y, z) = some a ∧ cmp (z, y) = some b ∧ (Sw (fun x y => (cmp (x, y)).getD 0) y z ∨ y = z) := by
 unfold Ul at h
 split at h
 ·rename_i a b e1 e2
  refine ⟨a, b, e1, e2, ?_⟩
  rw [zC1] at h
  rcases h with h | h
  ·rw [uV] at h
   exact .inl ⟨by show (cmp (y, z)).getD 0 < 0; rw [e1]; exact of_decide_eq_true h.1, by show 0 < (cmp (z, y)).getD 0; rw [e2]; exact of_decide_eq_true h.2⟩
  ·rw [uV, uV] at h
   exact .inr (hq _ _ h.1.1)
 ·cases h
theorem Tx {cmp : α × α → Option Int} {bq : α → α → Bool} (hq : ∀ x y, bq x y = true → x = y) : ∀ {l : List α}, aa cmp bq l = true →
  (∀ x y, x ∈ l → y ∈ l → cmp (x, y) = some ((cmp (x, y)).getD 0)) ∧ Ms (fun x y => (cmp (x, y)).getD 0) (· ∈ l) ∧ l.Pairwise (fun x y => ¬ (cmp (y, x)).getD 0 < 0)
 | [], _ => ⟨fun x y h => by simp at h, ⟨fun x h => by simp at h, fun x y h => by simp at h, fun x y z h => by simp at h⟩, List.Pairwise.nil⟩
 | y0 :: ys, h => by
  unfold aa at h
  rw [uV, uV, uX] at h
  obtain ⟨⟨h0, h1⟩, h2⟩ := h
  obtain ⟨i1, i2, i3⟩ := Tx hq h2
  have hs : cmp (y0, y0) = some 0 := by
   split at h0
   ·rename_i a e; rw [e, of_decide_eq_true h0]
   ·cases h0
  have hp := fun z hz => VY hq (h1 z hz)
  have self : ∀ x, x ∈ y0 :: ys → (cmp (x, x)).getD 0 = 0 := fun x hx => by
   rcases vI.1 hx with e | e
   ·subst e; rw [hs]; rfl
   ·exact i2.self x e
  have asy : ∀ x z, Sw (fun x y => (cmp (x, y)).getD 0) x z → Sw (fun x y => (cmp (x, y)).getD 0) z x → False := fun x z a b => Ms.asym a b
  have first : ∀ z, z ∈ y0 :: ys → y0 = z ∨ Sw (fun x y => (cmp (x, y)).getD 0) y0 z := fun z hz => by
   rcases vI.1 hz with e | e
   ·exact .inl e.symm
   ·obtain ⟨a, b, _, _, g⟩ := hp z e; exact g.symm
  refine ⟨fun x y hx hy => ?_, ⟨self, fun x y hx hy => ?_, fun x y z hx hy hz a b => ?_⟩, zC3.2 ⟨fun z hz => ?_, i3⟩⟩
  ·rcases vI.1 hx with e | e
   ·subst e
    rcases vI.1 hy with f | f
    ·subst f; rw [hs]; rfl
    ·obtain ⟨a, b, g, _⟩ := hp y f; rw [g]; rfl
   ·rcases vI.1 hy with f | f
    ·subst f; obtain ⟨a, b, _, g, _⟩ := hp x e; rw [g]; rfl
    ·exact i1 x y e f
  ·rcases vI.1 hx with e | e
   ·subst e; rcases first y hy with f | f
    ·exact .inl f
    ·exact .inr (.inl f)
   ·rcases vI.1 hy with f | f
    ·subst f; rcases first x hx with g | g
     ·exact .inl g.symm
     ·exact .inr (.inr g)
    ·exact i2.tri x y e f
  ·have nofirst : ∀ u, u ∈ y0 :: ys → Sw (fun x y => (cmp (x, y)).getD 0) u y0 → False := fun u hu a => by
    rcases first u hu with f | f
    ·subst f; exact asy _ _ a a
    ·exact asy _ _ a f
   rcases vI.1 hy with f | f
   ·subst f; exact (nofirst x hx a).elim
   rcases vI.1 hz with g | g
   ·subst g; exact (nofirst y hy b).elim
   rcases vI.1 hx with e | e
   ·subst e
    rcases first z hz with q | q
    ·subst q; exact (asy _ _ a b).elim
    ·exact q
   ·exact i2.trans x y z e f g a b
  ·rcases first z (List.mem_cons_of_mem _ hz) with f | f
   ·subst f; rw [hs]; simp
   ·have := f.2; simp only at this; omega
theorem Vv {cmp : α × α → Option Int} {bq : α → α → Bool} (hq : ∀ x y, bq x y = true → x = y) {xs ys : List α} (h : RN cmp bq xs = some ys) :
  (∀ x y, x ∈ xs → y ∈ xs → cmp (x, y) = some ((cmp (x, y)).getD 0)) ∧ Ms (fun x y => (cmp (x, y)).getD 0) (· ∈ xs) ∧ ys.Perm xs ∧ ys.Pairwise (fun x y => ¬ (cmp (y, x)).getD 0 < 0) ∧ xs.length < 4611686018427387904 := by
 unfold RN at h
 split at h
 ·rename_i hc
  rw [uV] at hc
  cases h
  have hp := Po cmp xs
  obtain ⟨h1, h2, h3⟩ := Tx hq hc.1
  have hm : ∀ x, x ∈ xs → x ∈ Uz cmp xs := fun x hx => hp.mem_iff.2 hx
  exact ⟨fun x y hx hy => h1 x y (hm x hx) (hm y hy), ⟨fun x hx => h2.self x (hm x hx), fun x y hx hy => h2.tri x y (hm x hx) (hm y hy), fun x y z hx hy hz => h2.trans x y z (hm x hx) (hm y hy) (hm z hz)⟩, hp, h3, of_decide_eq_true hc.2⟩
 ·cases h
theorem SW {P : Program} {ρ : Ren} (L : Go.Proofs.SlLaysF0.n6 P ρ) (k : Nat) (aE : ∀ w, (isAgg (ρ.t 24)).run P w = .ok true w) (zE : ∀ w, (Go.sizeOf (ρ.t 24)).run P w = .ok k w) {e : α → List T} (he : Uk e) {bq : α → α → Bool} (hq : ∀ x y, bq x y = true → x = y) {cmp : α × α → Option Int} {xs ys : List α} (h : RN cmp bq xs = some ys) :
  DS P (ρ.f 6) [.e (.one (.own 90000)), .e (.one (.clo (HT (Uj true e true e) (fun n => .val (.int .i64 n)) cmp)))] [(.vec k (xs.map e), .vec k (ys.map e))] [] (.tup []) := by
 obtain ⟨h1, h2, h3, h4, h5⟩ := Vv hq h
 refine Su L k aE zE (c := fun x y => (cmp (x, y)).getD 0) (fun x y hx hy => ?_) h2 h3 h4 h5
 exact JC (ea := Uj true e true e) (er := fun n => T.val (.int .i64 n)) (QO true e true e he he) (x := (x, y)) (h1 x y hx hy)
end
end Go.Lift
namespace Go.Lift
open Go.RowKit Go.ChangeShapes Go.WideShapes
variable {P : Program} {X : Io} {ops : Array Oper}
section run
variable {dr : Bool} {Q : St → Prop} {r i : Nat} {st : St} {log : List (Nat × CV)} {o : Oper} {gs : List (Operand × D)}
end run
end Go.Lift
namespace Go.Lift
open Go.RowKit Go.Shelf
end Go.Lift
namespace Go.Lift
open Go.RowKit
variable {P : Program} {X : Io}
end Go.Lift
namespace Go.Lift
open Go.RowKit
variable {P : Program} {X : Io} {ops : Array Oper}
section run
variable {dr : Bool} {Q : St → Prop} {r i : Nat} {st : St} {log : List (Nat × CV)} {o : Oper} {gs : List (Operand × D)}
end run
end Go.Lift
namespace Go.Lift
open Go.RowKit Go.Shelf
end Go.Lift
namespace Go.Lift
open Go.RowKit Go.Shelf
section
variable {P : Program} {ρ : Ren} {α : Type}
end
end Go.Lift
namespace Go.Lift
open Go.RowKit Go.Shelf
variable {P : Program} {X : Io} {ops : Array Oper}
end Go.Lift
namespace Go.Lift
open Go.RowKit Go.Shelf
variable {P : Program} {X : Io} {ops : Array Oper} {dr : Bool} {Q : St → Prop} {r i : Nat} {st : St} {log : List (Nat × CV)} {gs : List (Operand × D)}
end Go.Lift
namespace Go.Lift
open Go.RowKit Go.Proofs
end Go.Lift
namespace Go.Lift
open Go.RowKit
variable {P : Program}
theorem Ba.drop {w : World} {S : Nat → Prop} {arr : Array Value} {e n : Nat} {rows : List (List T)} (h : Ba w S arr e 0 rows) (hn : n ≤ rows.length) : Ba w S arr e (n * e) (rows.drop n) := by
 obtain ⟨h1, h2, h3⟩ := h
 refine ⟨?_, fun i row hi => ?_, fun i row j t hi hj => ?_⟩
 ·rw [List.length_drop, ← vU]
  rw [uT] at h1
  exact zG6 (uU e (by omega)) h1
 ·rw [zB0] at hi
  exact h2 _ row hi
 ·rw [zB0] at hi
  have := h3 _ row j t hi hj
  rwa [uT, vU] at this
theorem Ba.three {w : World} {S : Nat → Prop} {arr a1 a2 a3 : Array Value} {e : Nat} {r1 r2 r3 : List (List T)} (h1 : Ba w S a1 e 0 r1) (h2 : Ba w S a2 e 0 r2) (h3 : Ba w S a3 e 0 r3) (s2 : a2.size = r2.length * e) (hs : (r1.length + (r2.length + r3.length)) * e ≤ arr.size)
  (f1 : ∀ j, j < r1.length * e → Au arr j = Au a1 j) (f2 : ∀ j, j < r2.length * e → Au arr (r1.length * e + j) = Au a2 j) (f3 : ∀ j, j < r3.length * e → Au arr (r1.length * e + r2.length * e + j) = Au a3 j) : Ba w S arr e 0 (r1 ++ (r2 ++ r3)) := by
 have h3s : r3.length * e ≤ a3.size := by have := h3.1; omega
 have g23 := GB (_off := 0) (f := fun j => Au (a2 ++ a3) j) h2 h3 (fun j hj => by rw [Bi (by omega)]) (fun j hj => by rw [Es (by omega), s2, zB5])
 have h23 : Ba w S (a2 ++ a3) e 0 (r2 ++ r3) := by
  refine ⟨?_, g23.1, fun i row j t hi hj => ?_⟩
  ·rw [zA2, zB7, uT, vU, s2]
   omega
  ·rw [uT]; exact g23.2 i row j t hi hj
 have g := GB (_off := 0) (f := fun j => Au arr j) h1 h23 f1 (fun j hj => by
  rw [zA2, vU] at hj
  by_cases hlt : j < r2.length * e
  ·rw [f2 j hlt, Bi (by omega)]
  ·have := f3 (j - r2.length * e) (by omega)
   rw [show r1.length * e + r2.length * e + (j - r2.length * e) = r1.length * e + j by omega] at this
   rw [this, Es (by omega), s2])
 refine ⟨?_, g.1, fun i row j t hi hj => ?_⟩
 ·rw [zA2, zA2, uT]; exact hs
 ·rw [uT]; exact g.2 i row j t hi hj
theorem Qh {t t2 el e bytes : Nat} {w : World} {z : Value} {a : Option Addr} {n cap k : Nat} {ty : TypeId} {olds : Array Value} (ht : sliceB P t el = true) (ht2 : P.underlying t2 = some (.int .i64)) (he : Hl P el e = true) (hby : Fs P el bytes = true) (hbs : bytes ≤ 4096)
  (hz : EN P el = some z) (hzs : z.cells.size = e) (h0 : 0 < k) (hc : cap < n + k) (hl : n + k ≤ DC) (hep : 0 < e) (hold : ∀ w' : World, w'.heap = w.heap → (Builtin.firstCells e n (.slice a n cap)).run P w' = .ok olds w') :
  ∃ c rest, n + k ≤ c ∧ c ≤ 9223372036854775807 ∧ (Builtin.append_ #[t, t2] ty #[.slice a n cap, .int .i64 (k : Int)]).run P w = .ok (.slice (some ⟨w.heap.size, 0, none⟩) (n + k) c) (w.drew.alloc (.cells (olds ++ Builtin.zeroCells z.cells k ++ rest) el)) ∧ rest.size = (c - (n + k)) * e := by
 unfold sliceB at ht
 split at ht
 ·rename_i e' hu
  have : e' = el := by simpa using ht
  subst this
  unfold Fs at hby
  split at hby
  ·rename_i inf hinf
   have hbytes : inf.bytes = bytes := by simpa using hby
   have hlim : (DC : Int) = 4294967296 := by simp [DC]
   have hw : IntKind.i64.wrap (k : Int) = (k : Int) := wrap_i64 (by omega) (by omega)
   have hb : (k : Int) * (inf.bytes : Int) ≤ 17592186044416 := by
    have h1 : k * inf.bytes ≤ 4294967296 * 4096 := Nat.mul_le_mul (by omega) (by omega)
    have h2 : ((k * inf.bytes : Nat) : Int) = (k : Int) * (inf.bytes : Int) := by rw [Int.natCast_mul]
    omega
   have hfit : ¬ (n + k ≤ cap) := by omega
   have hnc : Builtin.nextslicecap (n + k) cap * inf.bytes ≤ 281474976710656 := growslice_fits (by omega) (by
    rw [hbytes]
    exact zG6 (Nat.mul_le_mul (by omega : n + k ≤ DC) hbs) Vh)
   obtain ⟨c, hc1, hc9, hc2⟩ : ∃ c, n + k ≤ c ∧ c ≤ 9223372036854775807 ∧ (choose (.appendCap (n + k) cap e')).run P w = .ok c w.drew := by
    refine ⟨n + k + w.tape w.drawn (.appendCap (n + k) cap e') % (2 ^ 63 - (n + k)), Nat.le_add_right _ _, ?_, rfl⟩
    have := Nat.mod_lt (w.tape w.drawn (.appendCap (n + k) cap e')) (show 0 < 2 ^ 63 - (n + k) by omega)
    omega
   refine ⟨c, Builtin.zeroCells z.cells (c - (n + k)), hc1, hc9, ?_, by simp [Builtin.zeroCells, hzs]⟩
   have hne : ¬ (k * e = 0) := by
    intro h
    rcases Nat.mul_eq_zero.1 h with h | h <;> omega
   have hc3 : ¬ (((n + k : Nat) : Int) > IntKind.i64.max ∧ (True ∨ inf.bytes = 0)) := by
    have h1 : IntKind.i64.max = 9223372036854775807 := rfl
    rw [h1]; omega
   have hc4 : ¬ (Builtin.nextslicecap (n + k) cap * inf.bytes > 2 ^ 48) := by omega
   unfold Builtin.append_
   refine Ai (AI hu w) ?_
   refine Ai (Dy he w) ?_
   refine Ai (AI ht2 w) ?_
   refine Ai (a := true) (w1 := w) rfl ?_
   dsimp only
   rw [if_pos rfl]
   refine Ai (a := (k : Int)) (w1 := w) rfl ?_
   rw [hw, if_neg (by omega)]
   refine Ai (FI hinf w) ?_
   rw [if_neg (by omega)]
   refine Ai (a := k) (w1 := w) (by simp) ?_
   simp only [hfit, if_false]
   refine Ai (FI hinf w) ?_
   rw [if_neg hc3]
   refine Ai (FI hinf w) ?_
   rw [if_neg hc4]
   refine Ai hc2 ?_
   refine Ai (FI hinf w.drew) ?_
   refine Ai (run_askRoom P w.drew _) ?_
   refine Ai (hold w.drew rfl) ?_
   refine Ai (a := Builtin.zeroCells z.cells k) (w1 := w.drew) ?_ ?_
   ·simp only [vM, zF7, if_false, hne]
    exact Ai (Fc hz w.drew) rfl
   refine Ai (Fc hz w.drew) ?_
   rfl
  ·cases hby
 ·cases ht
theorem QL {w : World} {tS tR el e : Nat} (ht : sliceB P tS el = true) (he : Hl P el e = true) {β b off o vc lb cb : Nat} {arr arr2 : Array Value} {t1 t2 : TypeId} {fz : Nat × Nat} (hne : β ≠ b) (h1 : w.heap[β]? = some (.cells arr2 t2 fz)) (h2 : w.heap[b]? = some (.cells arr t1 (0, 0))) (hs : arr.size ≠ 0) (hs2 : arr2.size ≠ 0) :
  (Extern.SlicesOverlaps.overlaps #[tS, tS] #[tR] #[.slice (some ⟨β, off, none⟩) 1 vc, .slice (some ⟨b, o, none⟩) lb cb]).run P w = .ok (.bool false) w := by
 unfold sliceB at ht
 split at ht
 ·rename_i e' hu
  have : e' = el := by simpa using ht
  subst this
  have hnb : ((⟨β, off, none⟩ : Addr).block != (⟨b, o, none⟩ : Addr).block) = true := by simpa using hne
  have hnb' : ((⟨β, off, none⟩ : Addr).block == (⟨b, o, none⟩ : Addr).block) = false := by simpa using hne
  have s1 : w.shape? β = some (t2, arr2.size) := by unfold World.shape?; rw [h1]
  have s2 : w.shape? b = some (t1, arr.size) := by unfold World.shape?; rw [h2]
  have f2 : ∀ q, w.frozen? ⟨b, q, none⟩ = false := fun q => by
   unfold World.frozen?
   simp [h2]
  change Sem.run P (α := Value) (do
   let some t := (#[tS, tS] : Array TypeId)[0]? | stuck "slices.overlaps: no parameter types"
   let .slice elem ← underlying t | stuck "slices.overlaps: slice type expected"
   let size ← sizeOf elem
   match (some ⟨β, off, none⟩ : Option Addr), (some ⟨b, o, none⟩ : Option Addr) with
   | some a, some b =>
    if 1 = 0 ∨ lb = 0 ∨ size = 0 then pure (Value.bool false)
    else if a.block != b.block && (← frozen a) && (← frozen b) then unsupported .addressObserved
    else do
     if a.block != b.block then do
      noView a; noView b
      if ← mayBeOne a b then return Value.bool ((← choose (Question.extern "sameAddr.stringBytes" 2)) == 1)
     pure (Value.bool (a.block == b.block && a.off < b.off + lb * size && b.off < a.off + 1 * size))
   | _, _ => pure (Value.bool false)) w = _
  by_cases h0 : lb = 0 ∨ e = 0
  ·simp [run_underlying hu, Dy he, h0]
  ·cases hk : arr.size with
   | zero => exact absurd hk hs
   | succ k =>
    rw [hk] at s2
    cases hk2 : arr2.size with
    | zero => exact absurd hk2 hs2
    | succ k2 =>
    rw [hk2] at s1
    cases hf : w.frozen? ⟨β, off, none⟩ <;> cases hg : w.frozen? ⟨β, k2 + 1, none⟩ <;> simp [run_underlying hu, Dy he, h0, hnb, hnb', frozen, noView, viewAt, mayBeOne, stringish, shape, Sem.run, s1, s2, f2, hf, hg]
 ·cases ht
end Go.Lift
