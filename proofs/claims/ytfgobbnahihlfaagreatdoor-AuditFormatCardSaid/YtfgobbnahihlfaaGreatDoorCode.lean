/- Lemmas for AuditFormatCardSaid, which YtfgobbnahihlfaaGreatDoorFinA5 proves. -/
import Derived.Test.YtfgobbnahihlfaaGreatDoorLift16
import Derived.ProofKit
import Derived.Shelf.SlSortCmp.NoneTotal
import Derived.MakeChecks
import Derived.Shelf.Strconv.Itoa3
import Derived.Shelf.Spec.TrailingZeros
import Derived.Shelf.SlLaysF
import Derived.Shelf.Strconv.Itoa4
import Derived.Laws.Runes
import Derived.Shelf.Strings.Builder1
import Derived.Deep.LoopGhost
import Derived.Deep.DeepFit
import Derived.Deep.Onto
import Derived.WalkKit
import Derived.Test.YtfgobbnahihlfaaGreatDoorProg
import Derived.KernelRfl
open Array renaming getElem?_append → zE7, getElem?_eq_none → vN, getElem?_eq_some_iff → zE1, length_toList → zC0, replicate → zC9
open Bool renaming and_eq_true → uT, and_eq_true_iff → zD6, false_eq_true → zD9, not_eq_true' → zB2, not_true → zB4, or_eq_true → zE0, true_and → vZ
open List renaming all_cons → vU, all_eq_true → uU, drop_eq_nil_of_le → zA5, eq_nil_of_length_eq_zero → zB9, getElem?_append_left → vO, getElem?_append_right → vM, getElem?_drop → zA0, getElem?_eq_getElem → vK, getElem?_map → uX, getElem?_take_of_lt → vC, length → zB7, length_cons → zB0, length_map → vG, map_cons → vI, map_nil → zE2, map_toArray → zC8, mem_cons → uZ, mem_iff_getElem? → vF, mem_map → vW, nodup_cons → zA2, range → zA4, range' → zC6, replicate → zA3
open Nat renaming add_assoc → zA9, add_mul → vX, ble → zA8, ble_eq_true_of_le → zB5, blt_eq → zB1, le_of_ble_eq_true → vH, le_refl → zB8, lt_or_ge → vJ, min → vT, mul_le_mul_right → uV, succ_mul → vP, zero_add → uY
open Option renaming getD_some → vY, map_some → zA1
open Go.Proofs.Tryz renaming prog → uS
namespace Go.Lift
open Go.RowKit
variable {P : Program} {X : EC} {ops : Array Oper}
def FA (P : Program) : Nat → List Field → Option (List Nat)
 | _, [] => some []
 | k, f :: fs => if f.name == "_" || f.offset != k then none else match P.underlying f.type with
  | some (.int _) => (FA P (k + 1) fs).map (0 :: ·)
  | some .bool => (FA P (k + 1) fs).map (1 :: ·)
  | some .string => (FA P (k + 1) fs).map (2 :: ·)
  | _ => none
def OW (P : Program) (t : TypeId) : Option (List Nat) :=
 match P.underlying t with
 | some (.struct fs) => if P.stoodInHeld t || P.eqGuardType P.depth t then none else FA P 0 fs.toList
 | _ => none
def CN : List Nat → List Value → List Value → Option Bool
 | [], [], [] => some true
 | 0 :: ts, .int k a :: ar, .int k' b :: bs => if k = k' then (CN ts ar bs).map (fun r => (a == b) && r) else none
 | 1 :: ts, .bool a :: ar, .bool b :: bs => (CN ts ar bs).map (fun r => (a == b) && r)
 | 2 :: ts, .string a :: ar, .string b :: bs => (CN ts ar bs).map (fun r => (a.toList == b.toList) && r)
 | _, _, _ => none
theorem Nm {ts : List Nat} {ar bs : List Value} {r : Bool} (h : CN (0 :: ts) ar bs = some r) : ∃ k a ar' b bs' r', ar = .int k a :: ar' ∧ bs = .int k b :: bs' ∧ CN ts ar' bs' = some r' ∧ r = ((a == b) && r') := by
 unfold CN at h
 split at h <;> try (exfalso; simp_all; done)
 rename_i ts' k a ar' k' b bs' e
 cases e
 split at h
 ·rename_i e; subst e
  cases hel : CN ts ar' bs' with
  | none => rw [hel] at h; cases h
  | some r' =>
   rw [hel] at h
   exact ⟨k, a, ar', b, bs', r', rfl, rfl, hel, by simpa using h.symm⟩
 ·cases h
theorem N3 {ts : List Nat} {ar bs : List Value} {r : Bool} (h : CN (1 :: ts) ar bs = some r) : ∃ a ar' b bs' r', ar = .bool a :: ar' ∧ bs = .bool b :: bs' ∧ CN ts ar' bs' = some r' ∧ r = ((a == b) && r') := by
 unfold CN at h
 split at h <;> try (exfalso; simp_all; done)
 rename_i ts' a ar' b bs' e
 cases e
 cases hel : CN ts ar' bs' with
 | none => rw [hel] at h; cases h
 | some r' =>
  rw [hel] at h
  exact ⟨a, ar', b, bs', r', rfl, rfl, hel, by simpa using h.symm⟩
theorem NF {ts : List Nat} {ar bs : List Value} {r : Bool} (h : CN (2 :: ts) ar bs = some r) : ∃ a ar' b bs' r', ar = .string a :: ar' ∧ bs = .string b :: bs' ∧ CN ts ar' bs' = some r' ∧ r = ((a.toList == b.toList) && r') := by
 unfold CN at h
 split at h <;> try (exfalso; simp_all; done)
 rename_i ts' a ar' b bs' e
 cases e
 cases hel : CN ts ar' bs' with
 | none => rw [hel] at h; cases h
 | some r' =>
  rw [hel] at h
  exact ⟨a, ar', b, bs', r', rfl, rfl, hel, by simpa using h.symm⟩
theorem J9 {t : TypeId} (h : CQ P t false = true) {cs : Array Value} {off : Nat} {v : Value} (hv : cs[off]? = some v) (w : World) : (part t cs off).run P w = .ok v w := by
 unfold part
 refine Ab (EV h w) ?_
 simp only [zD9, if_false, hv]
 rfl
theorem Jk (d : Nat) (xs ys : Array Value) (w : World) : ∀ (fs : List Field) (ts : List Nat) (k : Nat) (ar bs : List Value) (r : Bool), FA P k fs = some ts → (∀ (j : Nat) (v : Value), ar[j]? = some v → xs[k + j]? = some v) → (∀ (j : Nat) (v : Value), bs[j]? = some v → ys[k + j]? = some v) → CN ts ar bs = some r →
  (Op.eqFields (d + 1) xs ys fs).run P w = .ok r w
 | [], ts, k, ar, bs, r, ht, hx, hy, he => by
  cases ht
  cases ar <;> cases bs <;> simp [CN] at he
  subst he; rfl
 | f :: fs, ts, k, ar, bs, r, ht, hx, hy, he => by
  simp only [FA] at ht
  split at ht
  ·cases ht
  ·rename_i hn
   simp only [zE0, not_or, beq_iff_eq, bne_iff_ne, ne_eq, Decidable.not_not] at hn
   obtain ⟨hn1, hn2⟩ := hn
   subst hn2
   have step : ∀ (ts' : List Nat) (a b : Value) (ar' bs' : List Value) (q r' : Bool), ar = a :: ar' → bs = b :: bs' → FA P (f.offset + 1) fs = some ts' → CN ts' ar' bs' = some r' → CQ P f.type false = true → (Op.equalIn (d + 1) f.type a b).run P w = .ok q w →
     (Op.eqFields (d + 1) xs ys (f :: fs)).run P w = .ok (q && r') w := by
    intro ts' a b ar' bs' q r' ha hb htl hel hag heq
    subst ha; subst hb
    have h1 : xs[f.offset]? = some a := hx 0 a rfl
    have h2 : ys[f.offset]? = some b := hy 0 b rfl
    simp only [Op.eqFields, hn1, ne_eq, not_false_eq_true, if_true]
    refine Ab (J9 hag h1 w) (Ab (J9 hag h2 w) (Ab heq ?_))
    cases q
    ·simp
    ·simp only [zB4, zD9, if_false, vZ]
     exact Jk d xs ys w fs ts' (f.offset + 1) ar' bs' r' htl (fun j v hj => by rw [show f.offset + 1 + j = f.offset + (j + 1) from by omega]; exact hx (j + 1) v hj) (fun j v hj => by rw [show f.offset + 1 + j = f.offset + (j + 1) from by omega]; exact hy (j + 1) v hj) hel
   split at ht
   ·rename_i kk hu
    cases htl : FA P (f.offset + 1) fs with
    | none => rw [htl] at ht; cases ht
    | some ts' =>
     rw [htl] at ht; cases ht
     obtain ⟨k1, a1, ar', b1, bs', r', e1, e2, hel, rfl⟩ := Nm he
     subst e1; subst e2
     exact step ts' _ _ ar' bs' _ r' rfl rfl htl hel (by unfold CQ; rw [hu]; rfl) (run_equalIn_int w d f.type k1 kk a1 b1 hu)
   ·rename_i hu
    cases htl : FA P (f.offset + 1) fs with
    | none => rw [htl] at ht; cases ht
    | some ts' =>
     rw [htl] at ht; cases ht
     obtain ⟨a1, ar', b1, bs', r', e1, e2, hel, rfl⟩ := N3 he
     subst e1; subst e2
     exact step ts' _ _ ar' bs' _ r' rfl rfl htl hel (by unfold CQ; rw [hu]; rfl) (run_equalIn_bool' w d f.type a1 b1 hu)
   ·rename_i hu
    cases htl : FA P (f.offset + 1) fs with
    | none => rw [htl] at ht; cases ht
    | some ts' =>
     rw [htl] at ht; cases ht
     obtain ⟨a1, ar', b1, bs', r', e1, e2, hel, rfl⟩ := NF he
     subst e1; subst e2
     exact step ts' _ _ ar' bs' _ r' rfl rfl htl hel (by unfold CQ; rw [hu]; rfl) (run_equalIn_string w d f.type a1 b1 hu)
   ·cases ht
theorem KJ {t : TypeId} {ts : List Nat} (h : OW P t = some ts) {ar bs : List Value} {r : Bool} (hr : CN ts ar bs = some r) (w : World) :
  (Op.equalIn 10000 t (.agg ar.toArray) (.agg bs.toArray)).run P w = .ok r w ∧ P.eqGuardType P.depth t = false := by
 unfold OW at h
 split at h
 ·rename_i fs hu
  split at h
  ·cases h
  ·rename_i hn
   simp only [zE0, not_or, Bool.not_eq_true] at hn
   have hf : P.fieldsOf t = fs := by unfold Program.fieldsOf; rw [hu]
   refine ⟨?_, hn.2⟩
   rw [run_equalIn_struct w 9999 t _ _ (by rw [hf]; exact hu) hn.1, hf]
   exact Jk 9998 _ _ w fs.toList ts 0 ar bs r h (fun j v hj => by simpa using hj) (fun j v hj => by simpa using hj) hr
 ·cases h
abbrev aD (ar : List Value) : D := .e (.agg (ar.map fun v => .pure (.val v)))
theorem Nw {w : World} {G : Gh} {v : Value} {ar : List Value} (h : Ea P w G v (aD ar)) : v = .agg ar.toArray := by
 obtain ⟨vs, rfl, hs, h⟩ := h
 congr 1
 have hs' : vs.size = ar.length := by simpa using hs
 apply Array.ext
 ·simpa using hs'
 ·intro j h1 h2
  have hj : j < ar.length := by omega
  have : CI P w G (Al vs j) (.pure (.val ar[j])) := h j _ (by simp [hj])
  have h3 := BB (this : Bo w G.S _ (.val _))
  simpa [Al, h1] using h3
section run
variable {dr : Bool} {Q : St → Prop} {r i : Nat} {st : St} {log : List (Nat × A3)} {o : Oper} {gs : List (Operand × D)}
theorem Pi {xt yt : TypeId} {x y : Operand} {s : Nat} {ts : List Nat} {b : Bool} (ar bs : List Value) (hat : At st.env ops i X.n (.binOp .eql xt x y yt) s gs)
  (hx : opd st.env x = some (aD ar)) (hy : opd st.env y = some (aD bs)) (ht : OW P xt = some ts) (he : CN ts ar bs = some b)
  (next : AE P X ops dr Q r (i + 1) (A3.upd ⟨gs ++ [(x, aD ar), (y, aD bs)], [], some s, some (bD b), [], []⟩ st) ((i, ⟨gs ++ [(x, aD ar), (y, aD bs)], [], some s, some (bD b), [], []⟩) :: log)) : AE P X ops dr Q (r + 1) i st log := by
 obtain ⟨o, ho, hop, hd, hn, hg, hgp⟩ := hat.out
 refine AE.step next ⟨Af.2 ⟨hgp, hx, hy, trivial⟩, trivial, trivial⟩ (LR.value ho hg rfl hd.symm (BG hd hn) ?_)
 intro G st a w hs hpre
 obtain ⟨hx, hy, _⟩ := (Af.1 hpre.r).2
 have hX := Nw (hs.opd hx)
 have hY := Nw (hs.opd hy)
 obtain ⟨h1, h2⟩ := KJ ht he w
 refine ⟨.bool b, w, G, ?_, hs, ?_⟩
 ·simp only [execOp, hop, hX, hY]
  refine Ab (a := .bool b) (w1 := w) (Ab (run_eqGuard_agg w .eql xt x y _ _ h2) ?_) rfl
  rw [run_eql_struct, h1]; rfl
 ·rintro d ⟨⟩
  exact ⟨.val _ rfl, fun b hb => by cases hb⟩
theorem KF {xt yt : TypeId} {x : Operand} {s e : Nat} {rows : List (List T)} (hat : At st.env ops i X.n (.binOp .eql xt x (.const (.slice none 0 0)) yt) s gs)
  (hx : opd st.env x = some (one (.sl rows))) (ht : sliceB P xt e = true)
  (next : AE P X ops dr Q r (i + 1) (A3.upd ⟨gs ++ [(x, one (.sl rows))], [], some s, some (.e (.one (.nilq (rows = [])))), [], []⟩ st) ((i, ⟨gs ++ [(x, one (.sl rows))], [], some s, some (.e (.one (.nilq (rows = [])))), [], []⟩) :: log)) : AE P X ops dr Q (r + 1) i st log := by
 obtain ⟨o, ho, hop, hd, hn, hg, hgp⟩ := hat.out
 refine AE.step next ⟨Af.2 ⟨hgp, hx, trivial⟩, trivial, trivial⟩ (LR.value ho hg rfl hd.symm (BG hd hn) ?_)
 intro G st a w hs hpre
 obtain ⟨hx, _⟩ := (Af.1 hpre.r).2
 have hX : Bo w G.S (a.eval x) (.sl rows) := hs.opd hx
 obtain ⟨av, l, c, hv, hq⟩ : ∃ av l c, a.eval x = .slice av l c ∧ (av.isNone = true → rows = []) := by
  generalize a.eval x = v at hX
  cases hX with
  | nil av cap => exact ⟨av, 0, cap, rfl, fun _ => rfl⟩
  | sl β off cap e arr el fz rows h1 h2 h3 h4 h5 h6 => exact ⟨_, _, _, rfl, fun h => by cases h⟩
 have hu : P.underlying xt = some (.slice e) := by
  unfold sliceB at ht
  split at ht
  ·rename_i e' he; rw [he]; simp at ht; rw [ht]
  ·cases ht
 refine ⟨.bool av.isNone, w, G, ?_, hs, ?_⟩
 ·simp only [execOp, hop, hv]
  refine Ab (a := .bool av.isNone) (w1 := w) (Ab (a := ()) (w1 := w) (by simp [eqGuard]) ?_) rfl
  have h1 : (Op.equalIn (9999 + 1) xt (.slice av l c) (.slice none 0 0)).run P w = .ok av.isNone w := by
   generalize 9999 = dd
   cases av <;> (unfold Op.equalIn; exact Ab (As hu w) rfl)
  simp only [binOp, Act.eval]
  refine Ab (a := av.isNone) (w1 := w) ?_ rfl
  exact h1
 ·rintro d ⟨⟩
  exact ⟨⟨_, rfl, hq⟩, fun b hb => by cases hb⟩
end run
theorem Ks {c : Operand} {x y : Code} {Q : Exit → St → Prop} {st : St} {p : Prop} (hc : opd st.env c = some (.e (.one (.nilq p)))) (ht : p → W P X x Q st) (hf : W P X y Q st) : W P X (.cond c x y) Q st := by
 intro a w hs
 obtain ⟨b, hcv, hp⟩ : ∃ b, a.eval c = .bool b ∧ (b = true → p) := by
  obtain ⟨G, hs⟩ := hs
  exact hs.opd hc
 cases b with
 | true => exact wp_cond_true hcv (ht (hp rfl) a w hs)
 | false => exact wp_cond_false hcv (hf a w hs)
end Go.Lift
namespace Go.Lift
open List renaming mem_of_getElem? → lM
open Go.RowKit
variable {P : Program} {X : EC} {ops : Array Oper}
def Lh : Bool × List T → D
 | (true, ts) => .e (.agg (ts.map .pure))
 | (false, ts) => .e (.one (.pure (ts.headD .nil0)))
def Px : Bool × List T → Bool
 | (true, _) => true
 | (false, ts) => match ts with | [_] => true | _ => false
theorem Qa {w : World} {S : Nat → Prop} {G : Gh} {v : Value} {x : Bool × List T} (h : Ea P w G v (Lh x)) (hS : ∀ β, G.S β → S β) (hx : Px x = true) : Qj w S v x := by
 obtain ⟨b, ts⟩ := x
 cases b with
 | false =>
  match ts, hx with
  | [t], _ => exact ⟨t, rfl, Bo.mono (show Bo w G.S v t from h) (fun _ _ => rfl) hS⟩
 | true =>
  obtain ⟨vs, e, hs, h⟩ := h
  refine ⟨vs, e, by simpa using hs, fun j t hj => ?_⟩
  have : CI P w G (Al vs j) (.pure t) := h j (.pure t) (by simp [hj])
  exact Bo.mono this (fun _ _ => rfl) hS
theorem N2 {w : World} {S : Nat → Prop} {v : Value} {x : Bool × List T} (h : Qj w S v x) : Ea P w (G0 S) v (Lh x) := by
 obtain ⟨b, ts⟩ := x
 cases b with
 | false =>
  obtain ⟨t, rfl, h⟩ := h
  exact h
 | true =>
  obtain ⟨vs, e, hs, h⟩ := h
  refine ⟨vs, e, by simpa using hs, fun j c hj => ?_⟩
  rw [uX] at hj
  cases hx : ts[j]? with
  | none => rw [hx] at hj; cases hj
  | some t => rw [hx] at hj; cases hj; exact h j t hx
noncomputable def GX {α ρ : Type} (ea : α → List (Bool × List T)) (er : ρ → T) (q : α → Option ρ) : List (Bool × List T) → Option T := fun ar =>
 open Classical in if h : ∃ x r, ea x = ar ∧ q x = some r then some (er (Classical.choose (Classical.choose_spec h))) else none
theorem G5 {α ρ : Type} {ea : α → List (Bool × List T)} {er : ρ → T} {q : α → Option ρ} {ar : List (Bool × List T)} {t : T} (h : GX ea er q ar = some t) : ∃ x r, ar = ea x ∧ q x = some r ∧ t = er r := by
 unfold GX at h
 split at h
 ·rename_i hx
  cases h
  have := Classical.choose_spec (Classical.choose_spec hx)
  exact ⟨_, _, this.1.symm, this.2, rfl⟩
 ·cases h
theorem ID {α ρ : Type} {ea : α → List (Bool × List T)} {er : ρ → T} {q : α → Option ρ} (inj : ∀ x y, ea x = ea y → x = y) {x : α} {r : ρ} (h : q x = some r) : GX ea er q (ea x) = some (er r) := by
 have hx : ∃ y s, ea y = ea x ∧ q y = some s := ⟨x, r, rfl, h⟩
 unfold GX
 rw [dif_pos hx]
 have h1 := Classical.choose_spec (Classical.choose_spec hx)
 have h2 := inj _ _ h1.1
 have h3 : q (Classical.choose hx) = some r := by rw [h2]; exact h
 exact congrArg (fun z => some (er z)) (Option.some.inj (h3.symm.trans h1.2)).symm
structure Qi {α β : Type} (f : α → β) : Prop where
 inj : ∀ x y, f x = f y → x = y
def J8 {α : Type} (b : Bool) (e : α → List T) (x : α) : List (Bool × List T) := [(b, e x)]
theorem IF {α : Type} (b : Bool) (e : α → List T) (h : Qi e) : ∀ x y, J8 b e x = J8 b e y → x = y := by
 intro x y hxy
 simp only [J8, List.cons.injEq, Prod.mk.injEq, true_and, and_true] at hxy
 exact h.inj _ _ hxy
theorem Ma {α β : Type} {f : α → β} (h : ∀ x y, f x = f y → x = y) : ∀ (xs ys : List α), xs.map f = ys.map f → xs = ys
 | [], [], _ => rfl
 | [], _ :: _, e => by cases e
 | _ :: _, [], e => by cases e
 | x :: xs, y :: ys, e => by
  simp only [vI, List.cons.injEq] at e
  rw [h _ _ e.1, Ma h _ _ e.2]
theorem Ke {f : FuncId} {g : List (Bool × List T) → Option T} (hf : Av P f = true) (hclo : ∀ ar t, g ar = some t → Ak P f (ar.map Lh) [] (one t)) {w : World} {S : Nat → Prop} {v : Value} (h : Ea P w (G0 S) v (.e (.one (.fnc f)))) : Ea P w (G0 S) v (.e (.one (.clo g))) := by
 refine ⟨f, #[], h, ?_, ?_⟩
 ·unfold Av at hf
  split at hf
  ·rename_i fn h0
   simp only [uT, zB2] at hf
   exact ⟨fn, h0, hf.2, hf.1⟩
  ·cases hf
 ·intro w' S' _ _ hlt hgk vs ar r0 hvs has hgr
  refine (hclo ar r0 hgr w' S' (vs ++ #[]) hlt hgk (by simp [hvs]) ?_).mono ?_
  ·intro j d hj
   rw [uX] at hj
   cases hx0 : ar[j]? with
   | none => rw [hx0] at hj; cases hj
   | some y =>
    rw [hx0] at hj; cases hj
    rw [Array.append_empty]
    exact N2 (has j y hx0)
  ·rintro e w'' ⟨v, G', rfl, hbel, h1, h2, h3, _⟩
   exact ⟨v, G'.S, rfl, hbel, h1, h2, h3⟩
def Rc (P : Program) : List D → List D → Prop
 | [], [] => True
 | a :: ar, b :: bs => (∀ (w : World) (S : Nat → Prop) (v : Value), Ea P w (G0 S) v a → Ea P w (G0 S) v b) ∧ Rc P ar bs
 | _, _ => False
theorem Rc.get : ∀ {ar bs : List D}, Rc P ar bs → ar.length = bs.length ∧ ∀ (j : Nat) (b : D), bs[j]? = some b → ∃ a, ar[j]? = some a ∧ ∀ (w : World) (S : Nat → Prop) (v : Value), Ea P w (G0 S) v a → Ea P w (G0 S) v b
 | [], [], _ => ⟨rfl, fun j b h => by simp at h⟩
 | a :: ar, b :: bs, h => by
  obtain ⟨h1, h2⟩ := Rc.get h.2
  refine ⟨by simp [h1], fun j c hj => ?_⟩
  cases j with
  | zero => simp at hj; subst hj; exact ⟨a, rfl, h.1⟩
  | succ j => obtain ⟨a', g1, g2⟩ := h2 j c (by simpa using hj); exact ⟨a', by simpa using g1, g2⟩
theorem Ak.weak {f : FuncId} {ds ds' : List D} {rv : List (Nat × List (List T))} {res : D} (h : Ak P f ds rv res) (hp : Rc P ds' ds) : Ak P f ds' rv res := by
 intro w S vs hS hgk hlen hargs
 obtain ⟨h1, h2⟩ := hp.get
 refine h w S vs hS hgk (by rw [hlen, h1]) fun j d hj => ?_
 obtain ⟨a, g1, g2⟩ := h2 j d hj
 exact g2 w S _ (hargs j a g1)
section run
variable {dr : Bool} {Q : St → Prop} {r i : Nat} {st : St} {log : List (Nat × A3)} {o : Oper} {gs : List (Operand × D)}
theorem LI {f : FuncId} (h : Av P f = true) : ∃ fn, P.funcs[f]? = some fn ∧ fn.body.isSome = true ∧ (fn.name == "runtime.NumGoroutine") = false := by
 unfold Av at h
 split at h
 ·rename_i fn hf
  simp only [uT, zB2] at h
  exact ⟨fn, hf, h.2, h.1⟩
 ·cases h
theorem LC {f : FuncId} {s : Nat} {xs : List Operand} {capD : List D} (g : List (Bool × List T) → Option T) (hat : At st.env ops i X.n (.makeFunc (.func f) #[] xs.toArray) s gs)
  (hf : Av P f = true) (hl : xs.length = capD.length) (hx : Cw st.env (Em xs capD)) (hpub : capD.all K9 = true)
  (hclo : ∀ ar t, g ar = some t → Ak P f (ar.map Lh ++ capD) [] (one t))
  (next : AE P X ops dr Q r (i + 1) (A3.upd ⟨gs ++ Em xs capD, [], some s, some (.e (.one (.clo g))), [], []⟩ st) ((i, ⟨gs ++ Em xs capD, [], some s, some (.e (.one (.clo g))), [], []⟩) :: log)) : AE P X ops dr Q (r + 1) i st log := by
 obtain ⟨o, ho, hop, hd, hn, hg, hgp⟩ := hat.out
 refine AE.step next ⟨Af.2 ⟨hgp, hx⟩, trivial, trivial⟩ (LR.value ho hg rfl hd.symm (BG hd hn) ?_)
 intro G st a w hs hpre
 have hx := (Af.1 hpre.r).2
 refine ⟨.func (.func f) #[] (xs.toArray.map a.eval), w, G, ?_, hs, ?_⟩
 ·simp only [execOp, hop]
  exact Ab (a := .func (.func f) #[] (xs.toArray.map a.eval)) (w1 := w) (by simp [Instr.makeFunc]) rfl
 ·rintro d ⟨⟩
  refine ⟨⟨f, _, rfl, LI hf, ?_⟩, fun b hb => by cases hb⟩
  intro w' S' hS' hw' hlt hgk vs ar r0 hvs has hgr
  refine (hclo ar r0 hgr w' S' (vs ++ xs.toArray.map a.eval) hlt hgk (by simp [hvs, hl]) ?_).mono ?_
  ·intro j d hj
   by_cases hja : j < ar.length
   ·rw [vO (by simpa using hja), uX] at hj
    have hx0 : ar[j]? = some ar[j] := by simp [hja]
    rw [hx0] at hj; cases hj
    rw [Bu (by omega)]
    exact N2 (has j _ hx0)
   ·rw [vM (by simp; omega)] at hj
    simp only [vG] at hj
    have hlt' := Ar hj
    have hxj : xs[j - ar.length]? = some (xs[j - ar.length]'(by omega)) := by simp [show j - ar.length < xs.length from by omega]
    have hop' := FU hl hx _ _ d hxj hj
    have hcell : Al (vs ++ xs.toArray.map a.eval) j = a.eval (xs[j - ar.length]'(by omega)) := by
     unfold Al
     rw [Array.getElem?_append_right (by omega), hvs]
     simp [show j - ar.length < xs.length from by omega]
    rw [hcell]
    have hcl : d.names = [] := by
     have := uU.1 hpub d (lM hj)
     simpa [K9] using this
    exact ((hs.opd hop').mono (p := fun _ => False) (G' := G0 S') ⟨hS', fun _ h => h.elim, fun _ h => h.elim, fun _ h => h.elim⟩ hw' (fun b hb => by rw [hcl] at hb; cases hb))
  ·rintro e w'' ⟨v, G', rfl, hbel, h1, h2, h3, _⟩
   exact ⟨v, G'.S, rfl, hbel, h1, h2, h3⟩
theorem IH {x : Operand} {g : List (Bool × List T) → Option T} {s : Nat} {xs : List Operand} {ds0 : List D} {ar : List (Bool × List T)} {r0 : T} {ts : Array TypeId} (hat : At st.env ops i X.n (.call ⟨.value x, xs.toArray, ts⟩) s gs)
  (hgx : opd st.env x = some (.e (.one (.clo g)))) (hl : xs.length = ds0.length) (hx : Cw st.env (Em xs ds0)) (hds : ds0.map D.nrm = ar.map Lh) (_hpub : (ar.map Lh).all K9 = true) (hok : ar.all Px = true) (hr : g ar = some r0)
  (next : AE P X ops dr Q r (i + 1) (A3.upd ⟨gs ++ ((x, .e (.one (.clo g))) :: Em xs ds0), [], some s, some (one r0), [], []⟩ st) ((i, ⟨gs ++ ((x, .e (.one (.clo g))) :: Em xs ds0), [], some s, some (one r0), [], []⟩) :: log)) : AE P X ops dr Q (r + 1) i st log := by
 obtain ⟨o, ho, hop, hd, hn, hg, hgp⟩ := hat.out
 refine AE.step next ⟨Af.2 ⟨hgp, hgx, hx⟩, trivial, trivial⟩ ?_
 intro st a w K Q' hs hpre hK
 obtain ⟨G, hs⟩ := hs
 obtain ⟨hgx, hx⟩ := (Af.1 hpre.r).2
 have hw := hs.wanted hg (Af.1 hpre.r).1
 unfold wpOp
 rw [ho]
 simp only [hw, if_true]
 refine .inl ?_
 unfold Oper.wp
 obtain ⟨f, caps, hv, ⟨fn, hf1, hf2, hf3⟩, hcall⟩ : Jc P w G.S (a.eval x) g := hs.opd hgx
 have hgood : Av P f = true := by unfold Av; rw [hf1]; simp [hf2]; simpa using hf3
 have hrun : (execOp a.eval o).run P w = .ok (.enter f (xs.toArray.map a.eval ++ caps)) w := by
  simp only [execOp, hop]
  simp only [resolve, hv, Deferred.ofValue]
  refine Ab (a := { target := .fn (.func f) caps, args := #[] ++ xs.toArray.map a.eval }) (w1 := w) rfl ?_
  simp only [invoke]
  rw [Gk hgood]; simp
 rw [hrun]
 show Calls P f (xs.toArray.map a.eval ++ caps) w _
 have hlen : xs.length = ar.length := by
  have := congrArg zB7 hds
  simp at this; omega
 refine (hcall w G.S (fun _ h => h) (fun _ _ => rfl) hs.S_lt hs.gok (xs.toArray.map a.eval) ar r0 (by simp [hlen]) ?_ hr).mono ?_
 ·intro j y hj
  have hlt := Ar hj
  have hd0 : ds0[j]? = some (ds0[j]'(by omega)) := by simp [show j < ds0.length from by omega]
  have hnrm : (ds0[j]'(by omega)).nrm = Lh y := by
   have h1 : (ds0.map D.nrm)[j]? = (ar.map Lh)[j]? := by rw [hds]
   rw [uX, uX, hd0, hj] at h1
   simpa using h1
  have hxj : xs[j]? = some (xs[j]'(by omega)) := by simp [show j < xs.length from by omega]
  have hop' := FU hl hx j _ _ hxj hd0
  have hcell : Al (xs.toArray.map a.eval) j = a.eval (xs[j]'(by omega)) := by simp [Al, show j < xs.length from by omega]
  rw [hcell]
  have hrd := (hs.opd hop').nrm
  rw [hnrm] at hrd
  exact Qa hrd (fun _ h => h) (uU.1 hok y (lM hj))
 ·rintro e w' ⟨v, S'', rfl, hbel, hS1, hS2, hres⟩
  show K (a.put o.dst v) w'
  rw [hd]
  let G2 : Gh := { G with S := S'' }
  have hsz := hbel.size
  have hle := hs.below.size
  have key : Br P X G2 ⟨st.env, AT st.bx []⟩ a w' := by
   refine hs.frame (fun c hc => hc) ⟨hS1, fun _ _ => rfl, fun _ _ => rfl, fun _ _ => rfl⟩ (fun β hβ => hbel.block β (hs.S_lt β hβ)) ?_ ?_ ?_ ?_ ?_ (hs.below.trans (.of (hbel.mono hle))) (fun _ _ => ⟨rfl, rfl, rfl⟩)
   ·intro c k hc
    exact .inl ⟨hc, fun β hr hβ => hbel.block β (hs.at_ok c k β hc hr hβ).2.1⟩
   ·intro c k β hc hr hβ
    have := hs.at_ok c k β hc hr hβ
    refine ⟨this.1, by omega, fun h => ?_⟩
    rcases hS2 β h with h | h
    ·exact this.2.2 h
    ·omega
   ·intro c c' k k' β hc hc' hr hr' hβ hβ'
    exact hs.at_inj c c' k k' β hc hc' hr hr' hβ hβ'
   ·intro β h
    rcases hS2 β h with h | h
    ·have := hs.S_lt β h; omega
    ·exact h.2
   ·intro β h
    rcases hS2 β h with h | h
    ·exact hs.S_src β h
    ·exact .inr (by omega)
  refine hK _ _ ⟨G2, key.put (some s) (some (one r0)) v (by intro t e; cases e; exact hn) ?_⟩
  rintro d ⟨⟩
  exact ⟨hres, fun b hb => by cases hb⟩
end run
end Go.Lift
namespace Go.Lift
open Go.RowKit Go.ChangeShapes Go.WideShapes
section
variable {P : Program}
def HA (P : Program) : Nat → List Field → Nat → Bool
 | o, [], n => o == n
 | o, f :: fs, n => f.offset == o && HA P (o + P.cellsOf f.type) fs n
def FC (P : Program) : Nat → TypeId → Bool
 | 0, _ => false
 | d + 1, t => match P.underlying t with
  | some (.int _) => true
  | some .bool => true
  | some .string => true
  | some (.slice e) => decide (0 < P.cellsOf e) && FC P d e
  | some (.struct fs) => HA P 0 fs.toList (P.cellsOf t) && fs.toList.all fun f => FC P d f.type
  | _ => false
def OZ (F : TypeId → List T → Prop) : List TypeId → List T → Prop
 | [], ts => ts = []
 | t :: tys, ts => ∃ a b, ts = a ++ b ∧ F t a ∧ OZ F tys b
def Hb (P : Program) : Nat → TypeId → List T → Prop
 | 0, _, _ => False
 | d + 1, t, ts => match P.underlying t with
  | some (.int k) => ∃ n, ts = [.val (.int k n)] ∧ (Lit.int k n).wf = true
  | some .bool => ∃ b, ts = [.val (.bool b)]
  | some .string => ∃ s, ts = [.val (.string s)]
  | some (.slice e) => ∃ rows, ts = [.sl rows] ∧ ∀ row, row ∈ rows → Hb P d e row
  | some (.struct fs) => OZ (Hb P d) (fs.toList.map (·.type)) ts
  | _ => False
def EP (w : World) (S : Nat → Prop) : List Value → List T → Prop
 | [], [] => True
 | v :: vs, t :: ts => Bo w S v t ∧ EP w S vs ts
 | _, _ => False
theorem EP.append {w : World} {S : Nat → Prop} : ∀ {a b : List Value} {x y : List T}, EP w S a x → EP w S b y → EP w S (a ++ b) (x ++ y)
 | [], _, [], _, _, h => h
 | _ :: _, _, _ :: _, _, h1, h2 => ⟨h1.1, EP.append h1.2 h2⟩
theorem EP.len {w : World} {S : Nat → Prop} : ∀ {a : List Value} {x : List T}, EP w S a x → a.length = x.length
 | [], [], _ => rfl
 | _ :: _, _ :: _, h => by simp [h.2.len]
theorem EP.get {w : World} {S : Nat → Prop} : ∀ {a : List Value} {x : List T}, EP w S a x → ∀ (j : Nat) (t : T), x[j]? = some t → ∃ v, a[j]? = some v ∧ Bo w S v t
 | [], [], _, j, t, hj => by simp at hj
 | v :: _, _ :: _, h, 0, t, hj => by simp at hj; subst hj; exact ⟨v, rfl, h.1⟩
 | _ :: _, _ :: _, h, j + 1, t, hj => by
  obtain ⟨v, h1, h2⟩ := h.2.get j t (by simpa using hj)
  exact ⟨v, by simpa using h1, h2⟩
theorem Ir {α : Type} {p : Nat → α → Prop} : ∀ (n : Nat), (∀ i, i < n → ∃ x, p i x) → ∃ l : List α, l.length = n ∧ ∀ i x, l[i]? = some x → p i x
 | 0, _ => ⟨[], rfl, fun i x h => by simp at h⟩
 | n + 1, h => by
  obtain ⟨l, h1, h2⟩ := Ir n (fun i hi => h i (by omega))
  obtain ⟨x, hx⟩ := h n (by omega)
  refine ⟨l ++ [x], by simp [h1], fun i y hi => ?_⟩
  by_cases hlt : i < l.length
  ·rw [vO hlt] at hi; exact h2 i y hi
  ·rw [vM (by omega)] at hi
   have : i - l.length = 0 := by
    have := Ar hi
    simp at this; omega
   rw [this] at hi
   simp at hi; subst hi
   have : i = n := by omega
   subst this; exact hx
theorem GB {α : Type} {f : Nat → Option α} : ∀ {n : Nat} {l : List α}, (zA4 n).mapM f = some l → l.length = n ∧ ∀ i, i < n → f i = l[i]? := by
 intro n l h
 have h1 := mapM_some_length h
 refine ⟨by simpa using h1, fun i hi => ?_⟩
 exact mapM_some_get h i i (by simp [hi])
theorem K2 {w : World} {b o : Nat} {v : Value} (h : w.cell? ⟨b, o, none⟩ = some v) : ∃ arr el fz, w.heap[b]? = some (.cells arr el fz) ∧ arr[o]? = some v := by
 unfold World.cell? at h
 split at h
 ·rename_i c el fz hc
  exact ⟨c, el, fz, hc, by simpa using h⟩
 ·cases h
theorem OV {w : World} {b : Nat} {o : Obj} (h : w.heap[b]? = some o) : b < w.heap.size := by
 rcases vJ b w.heap.size with h1 | h1
 ·exact h1
 ·rw [vN h1] at h; cases h
abbrev LK (w : World) : Nat → Prop := fun β => β < w.heap.size
theorem Kb {H : Type} {enc : TypeId × Value → H} {w : World} {sp : Nat → Bool} {held : Bool} {n d : Nat} {cs : List Value}
  (ih : ∀ (t : TypeId) (cs : List Value) (x : DataW H × List MemPlace), FC P d t = true → DataW.trod enc P w 0 sp held n t cs = some x → ∃ ts, EP w (LK w) cs ts ∧ Hb P d t ts) :
  ∀ (fs : List Field) (o : Nat), HA P o fs cs.length = true → (fs.all fun f => FC P d f.type) = true →
   (∀ f, f ∈ fs → ∃ x, DataW.trod enc P w 0 sp held n f.type ((cs.drop f.offset).take (P.cellsOf f.type)) = some x) →
   ∃ ts, EP w (LK w) (cs.drop o) ts ∧ OZ (Hb P d) (fs.map (·.type)) ts
 | [], o, hc, _, _ => by
  simp only [HA, beq_iff_eq] at hc
  refine ⟨[], ?_, rfl⟩
  rw [zA5 (by omega)]; trivial
 | f :: fs, o, hc, hp, hx => by
  simp only [HA, uT, beq_iff_eq] at hc
  simp only [vU, uT] at hp
  obtain ⟨x, hx0⟩ := hx f (by simp)
  rw [hc.1] at hx0
  obtain ⟨ts, h1, h2⟩ := ih _ _ _ hp.1 hx0
  obtain ⟨us, h3, h4⟩ := Kb ih fs _ hc.2 hp.2 (fun g hg => hx g (by simp [hg]))
  refine ⟨ts ++ us, ?_, ⟨ts, us, rfl, h2, h4⟩⟩
  have : cs.drop o = (cs.drop o).take (P.cellsOf f.type) ++ cs.drop (o + P.cellsOf f.type) := by
   rw [← List.drop_drop, List.take_append_drop]
  rw [this]
  exact h1.append h3
theorem Ku {H : Type} {enc : TypeId × Value → H} {w : World} {sp : Nat → Bool} {held : Bool} : ∀ (d fuel : Nat) (t : TypeId) (cs : List Value) (x : DataW H × List MemPlace), FC P d t = true → DataW.trod enc P w 0 sp held fuel t cs = some x → ∃ ts, EP w (LK w) cs ts ∧ Hb P d t ts
 | 0, _, _, _, _, hp, _ => by cases hp
 | d + 1, fuel, t, cs, x, hp, hx => by
  unfold FC at hp
  unfold Hb
  split at hp
  ·rename_i k hu
   obtain ⟨n, rfl, _, hw⟩ := DataW.trod_int hu hx
   exact ⟨[.val (.int k n)], ⟨.val _ rfl, trivial⟩, n, rfl, hw⟩
  ·rename_i hu
   obtain ⟨b, rfl, _⟩ := DataW.trod_bool hu hx
   exact ⟨[.val (.bool b)], ⟨.val _ rfl, trivial⟩, b, rfl⟩
  ·rename_i hu
   obtain ⟨b, rfl, _⟩ := DataW.trod_string hu hx
   exact ⟨[.val (.string b)], ⟨.val _ rfl, trivial⟩, b, rfl⟩
  ·rename_i e hu
   simp only [uT, decide_eq_true_eq] at hp
   rcases DataW.trod_slice hu hx with ⟨rfl, _⟩ | ⟨a, len, cap, elems, rest, n, rfl, rfl, _, _, hl, _, hlen, hel, _, _⟩
   ·exact ⟨[.sl []], ⟨.nil none 0, trivial⟩, [], rfl, fun row h => by cases h⟩
   ·have hrow : ∀ i, i < len → ∃ row, ∃ csi, w.cells? 0 (a.add (i * P.cellsOf e)) (P.cellsOf e) = some csi ∧ EP w (LK w) csi row ∧ Hb P d e row := by
     intro i hi
     have h1 := hel i hi
     have h2 : elems[i]? = some (elems[i]'(by omega)) := by simp [show i < elems.length from by omega]
     rw [h2] at h1
     obtain ⟨csi, h3, h4⟩ := Option.bind_eq_some_iff.1 h1
     obtain ⟨row, h5, h6⟩ := Ku d n e csi _ hp.2 h4
     exact ⟨row, csi, h3, h5, h6⟩
    obtain ⟨rows, hrl, hrows⟩ := Ir len hrow
    subst hrl
    refine ⟨[.sl rows], ⟨?_, trivial⟩, rows, rfl, fun row hm => ?_⟩
    ·cases hr0 : rows with
     | nil => exact .nil _ _
     | cons r0 rs0 =>
      rw [← hr0]
      have hpos : 0 < rows.length := by rw [hr0]; simp
      -- each cell
      have hcell : ∀ (i : Nat) (row : List T) (j : Nat) (u : T), rows[i]? = some row → row[j]? = some u → j < P.cellsOf e ∧ ∃ v, w.cell? ((a.add (i * P.cellsOf e)).add j) = some v ∧ Bo w (LK w) v u := by
       intro i row j u hi hj
       obtain ⟨csi, h1, h2, _⟩ := hrows i row hi
       obtain ⟨v, h3, h4⟩ := h2.get j u hj
       unfold World.cells? at h1
       rw [if_pos (Nat.zero_le _)] at h1
       obtain ⟨h5, h6⟩ := GB h1
       have hjl : j < P.cellsOf e := by have := Ar h3; omega
       exact ⟨hjl, v, by rw [h6 j hjl, h3], h4⟩
      have hrlen : ∀ (i : Nat) (row : List T), rows[i]? = some row → row.length = P.cellsOf e := by
       intro i row hi
       obtain ⟨csi, h1, h2, _⟩ := hrows i row hi
       unfold World.cells? at h1
       rw [if_pos (Nat.zero_le _)] at h1
       obtain ⟨h5, _⟩ := GB h1
       rw [← h2.len, h5]
      have hget : ∀ i (hi : i < rows.length), rows[i]? = some (rows[i]'hi) := fun i hi => by simp [hi]
      have hr00 := hget 0 hpos
      have hl0 := hrlen 0 _ hr00
      obtain ⟨_, v0, hv0, _⟩ := hcell 0 _ 0 ((rows[0]'hpos)[0]'(by omega)) hr00 (by simp)
      have hadd0 : (a.add (0 * P.cellsOf e)).add 0 = a := by simp [Addr.add]
      rw [hadd0] at hv0
      have hspot := World.cell?_spot hv0
      obtain ⟨β, off, spot⟩ := a
      simp only at hspot
      subst hspot
      obtain ⟨arr, el, fz, hb, _⟩ := K2 hv0
      have hadd : ∀ i j : Nat, ((⟨β, off, none⟩ : Addr).add (i * P.cellsOf e)).add j = ⟨β, off + i * P.cellsOf e + j, none⟩ := by
       intro i j
       unfold Addr.add
       split
       ·rename_i h1
        split
        ·rename_i h2; rw [h2]; simp
        ·rename_i h2; simp only [Addr.mk.injEq, true_and, and_true]; omega
       ·split <;> simp_all <;> omega
      have hat : ∀ (i : Nat) (row : List T) (j : Nat) (u : T), rows[i]? = some row → row[j]? = some u → off + i * P.cellsOf e + j < arr.size ∧ Bo w (LK w) (Al arr (off + i * P.cellsOf e + j)) u := by
       intro i row j u hi hj
       obtain ⟨_, v, h1, h2⟩ := hcell i row j u hi hj
       rw [hadd] at h1
       obtain ⟨arr', el', fz', h3, h4⟩ := K2 h1
       rw [hb] at h3; cases h3
       have hlt : off + i * P.cellsOf e + j < arr.size := by
        rcases vJ (off + i * P.cellsOf e + j) arr.size with h | h
        ·exact h
        ·rw [vN h] at h4; cases h4
       refine ⟨hlt, ?_⟩
       have : Al arr (off + i * P.cellsOf e + j) = v := by unfold Al; rw [h4]; rfl
       rw [this]; exact h2
      refine .sl β off cap (P.cellsOf e) arr el fz rows (OV hb) hb hl ?_ hrlen (fun i row j u hi hj => (hat i row j u hi hj).2)
      have hil := hget (rows.length - 1) (by omega)
      have hll := hrlen _ _ hil
      have h7 := (hat (rows.length - 1) _ (P.cellsOf e - 1) ((rows[rows.length - 1]'(by omega))[P.cellsOf e - 1]'(by omega)) hil (by simp)).1
      have h8 : rows.length * P.cellsOf e = (rows.length - 1) * P.cellsOf e + P.cellsOf e := by
       rw [← vP]; congr 1; omega
      omega
    ·obtain ⟨i, hi⟩ := vF.1 hm
     obtain ⟨_, _, _, h⟩ := hrows i row hi
     exact h
  ·rename_i fs hu
   simp only [uT] at hp
   obtain ⟨xs, n, rfl, _, hcl, hxl, hf⟩ := DataW.trod_struct hu hx
   have := Kb (enc := enc) (sp := sp) (held := held) (cs := cs) (fun t cs x h1 h2 => Ku d n t cs x h1 h2) fs.toList 0 (by rw [hcl]; exact hp.1) hp.2 (fun f hm => by
    obtain ⟨i, hi⟩ := vF.1 hm
    have hi' : fs[i]? = some f := by simpa using hi
    have h1 := hf i f hi'
    have hlt : i < fs.size := by
     have := Ar hi
     simpa using this
    exact ⟨xs[i]'(by omega), by rw [h1]; simp [show i < xs.length from by omega]⟩)
   simpa using this
  ·cases hp
end
end Go.Lift
namespace Go.Lift
open Go.RowKit Go.ChangeShapes Go.WideShapes
section
variable {P : Program}
def PH (P : Program) (t : TypeId) (us : List T) : D := match P.underlying t with
 | some (.struct _) => .e (.agg (us.map .pure))
 | _ => .e (.one (.pure (us.headD .nil0)))
def Gf (P : Program) (d : Nat) : List TypeId → List D → Prop
 | [], [] => True
 | t :: ts, x :: xs => (∃ us, Hb P d t us ∧ x = PH P t us) ∧ Gf P d ts xs
 | _, _ => False
theorem PU {H : Type} {enc : TypeId × Value → H} {w : World} {d base : Nat} {t : TypeId} {v : Value} {x : DataW H} {ps : List MemPlace} (hp : FC P d t = true) (hval : Value.okWide P w .any base t v) (h : DataW.Trod enc P w 0 (fun _ => true) true t v x ps) :
  ∃ us, Hb P d t us ∧ Ea P w (G0 (LK w)) v (PH P t us) := by
 obtain ⟨fuel, hf⟩ := h
 obtain ⟨us, h1, h2⟩ := Ku d fuel t _ _ hp hf
 refine ⟨us, h2, ?_⟩
 have single : ∀ (v : Value), v.cells.toList = [v] → EP w (LK w) v.cells.toList us → Ea P w (G0 (LK w)) v (.e (.one (.pure (us.headD .nil0)))) := by
  intro v hv hr
  rw [hv] at hr
  match us, hr with
  | [u], hr => exact hr.1
 unfold PH
 cases d with
 | zero => cases hp
 | succ d =>
  unfold FC at hp
  split at hp
  ·rename_i k hu
   rw [hu]
   obtain ⟨n, rfl⟩ := okWide_int hu hval
   exact single _ rfl h1
  ·rename_i hu
   rw [hu]
   obtain ⟨n, rfl⟩ := okWide_bool hu hval
   exact single _ rfl h1
  ·rename_i hu
   rw [hu]
   obtain ⟨n, rfl⟩ := okWide_string hu hval
   exact single _ rfl h1
  ·rename_i e hu
   rw [hu]
   obtain ⟨a, len, cap, rfl⟩ := okWide_slice hu hval
   exact single _ rfl h1
  ·rename_i fs hu
   rw [hu]
   simp only [Value.okWide, hu] at hval
   obtain ⟨cs, rfl, _, _⟩ := hval
   have h1 : EP w (LK w) cs.toList us := h1
   refine ⟨cs, rfl, by simpa using h1.len, fun j c hj => ?_⟩
   rw [uX] at hj
   cases hx : us[j]? with
   | none => rw [hx] at hj; cases hj
   | some u =>
    rw [hx] at hj; cases hj
    obtain ⟨v, h3, h4⟩ := h1.get j u hx
    have : Al cs j = v := by unfold Al; rw [show cs[j]? = some v from by simpa using h3]; rfl
    rw [this]; exact h4
  ·cases hp
theorem Mp {H : Type} {enc : TypeId × Value → H} {w : World} {d base : Nat} : ∀ {ts : List TypeId} {vs : List Value} {ds : List (DataW H)} {ps : List MemPlace}, (ts.all (FC P d)) = true → (∀ (j : Nat) t v, ts[j]? = some t → vs[j]? = some v → Value.okWide P w .any base t v) →
  DataW.TrodAll enc P w 0 (fun _ => true) true ts vs ds ps → ∃ Ds, Gf P d ts Ds ∧ vs.length = Ds.length ∧ ds.length = ts.length ∧ ∀ (j : Nat) (x : D), Ds[j]? = some x → ∃ v, vs[j]? = some v ∧ Ea P w (G0 (LK w)) v x
 | [], [], [], _, _, _, _ => ⟨[], trivial, rfl, rfl, fun j x h => by simp at h⟩
 | t :: ts, v :: vs, x :: xs, _, hp, hval, h => by
  obtain ⟨p, q, h1, h2, _⟩ := h
  simp only [vU, uT] at hp
  obtain ⟨us, h3, h4⟩ := PU hp.1 (hval 0 t v rfl rfl) h1
  obtain ⟨Ds, h5, h6, h7, h8⟩ := Mp hp.2 (fun j t v hj hv => hval (j + 1) t v (by simpa using hj) (by simpa using hv)) h2
  refine ⟨PH P t us :: Ds, ⟨⟨us, h3, rfl⟩, h5⟩, by simp [h6], by simp [h7], fun j y hj => ?_⟩
  cases j with
  | zero => simp at hj; subst hj; exact ⟨v, rfl, h4⟩
  | succ j =>
   obtain ⟨v', g1, g2⟩ := h8 j y (by simpa using hj)
   exact ⟨v', by simpa using g1, g2⟩
 | [], [], _ :: _, _, _, _, h => h.elim
 | [], _ :: _, _, _, _, _, h => by cases ‹List (DataW H)› <;> exact h.elim
 | _ :: _, [], _, _, _, _, h => by cases ‹List (DataW H)› <;> exact h.elim
 | _ :: _, _ :: _, [], _, _, _, h => h.elim
theorem Hn {H : Type} {enc : TypeId × Value → H} (hl : laidOutB P = true) {W W' : World} (hb : Below W.heap.size W W') : ∀ {ts : List TypeId} {vs : List Value} {ds : List (DataW H)} {ps : List MemPlace}, (ts.all fun t => P.readableRec t && decide (t < P.types.size)) = true →
  DataW.TrodAll enc P W 0 (fun _ => true) true ts vs ds ps → (∀ x ∈ ps, x.block < W.heap.size) → DataW.TrodAll enc P W' 0 (fun b => decide (b < W.heap.size)) true ts vs ds ps
 | [], [], [], _, _, h, _ => h
 | t :: ts, v :: vs, x :: xs, _, hr, h, hlt => by
  obtain ⟨p, q, h1, h2, rfl⟩ := h
  simp only [vU, uT, decide_eq_true_eq] at hr
  refine ⟨p, q, Below.trod hl hr.1.1 hr.1.2 h1 hb (fun y hy => hlt y (by simp [hy])), Hn hl hb (by simpa using hr.2) h2 (fun y hy => hlt y (by simp [hy])), rfl⟩
 | [], [], _ :: _, _, _, h, _ => h.elim
 | [], _ :: _, _, _, _, h, _ => by cases ‹List (DataW H)› <;> exact h.elim
 | _ :: _, [], _, _, _, h, _ => by cases ‹List (DataW H)› <;> exact h.elim
 | _ :: _, _ :: _, [], _, _, h, _ => h.elim
end
end Go.Lift
namespace Go.Lift
open Go.RowKit
section
variable {P : Program}
def Pd {α : Type} (P : Program) (t : TypeId) (e : α → List T) (W : α → Prop) : Prop := ∀ (d : Nat) (ts : List T), Hb P d t ts → ∃ x, ts = e x ∧ W x
theorem Mi {t : TypeId} {k : IntKind} {e : Int → List T} (h : JJ P t k = true) (he : ∀ n, e n = [.val (.int k n)]) : Pd P t e (fun n => (Lit.int k n).wf = true) := by
 intro d ts hf
 cases d with
 | zero => exact hf.elim
 | succ d =>
  unfold JJ at h
  unfold Hb at hf
  split at h
  ·rename_i k' hu
   rw [hu] at hf
   obtain ⟨n, rfl, hw⟩ := hf
   have : k' = k := by simpa using h
   subst this
   exact ⟨n, (he n).symm, hw⟩
  ·cases h
theorem I8 {α : Type} {e : α → List T} {W : α → Prop} : ∀ (rows : List (List T)), (∀ row, row ∈ rows → ∃ x, row = e x ∧ W x) → ∃ xs : List α, rows = xs.map e ∧ ∀ x, x ∈ xs → W x
 | [], _ => ⟨[], rfl, fun x h => by cases h⟩
 | r :: rows, h => by
  obtain ⟨x, rfl, hx⟩ := h r (by simp)
  obtain ⟨xs, rfl, hxs⟩ := I8 rows (fun row hr => h row (by simp [hr]))
  exact ⟨x :: xs, rfl, fun y hy => by
   rcases uZ.1 hy with e | e
   ·subst e; exact hx
   ·exact hxs y e⟩
theorem MK {α : Type} {t el : TypeId} {e : α → List T} {W : α → Prop} {e2 : List α → List T} (h : sliceB P t el = true) (he : Pd P el e W) (h2 : ∀ xs, e2 xs = [.sl (xs.map e)]) : Pd P t e2 (fun xs => ∀ x, x ∈ xs → W x) := by
 intro d ts hf
 cases d with
 | zero => exact hf.elim
 | succ d =>
  unfold sliceB at h
  unfold Hb at hf
  split at h
  ·rename_i e' hu
   rw [hu] at hf
   obtain ⟨rows, rfl, hr⟩ := hf
   have : e' = el := by simpa using h
   subst this
   obtain ⟨xs, rfl, hxs⟩ := I8 rows (fun row hm => he d row (hr row hm))
   exact ⟨xs, (h2 xs).symm, hxs⟩
  ·cases h
def GR (P : Program) (t : TypeId) : Option (List TypeId) := match P.underlying t with | some (.struct fs) => some (fs.toList.map (·.type)) | _ => none
theorem LP {t : TypeId} {tys : List TypeId} (h : GR P t = some tys) {d : Nat} {ts : List T} (hf : Hb P d t ts) : ∃ d', OZ (Hb P d') tys ts := by
 cases d with
 | zero => exact hf.elim
 | succ d =>
  unfold GR at h
  unfold Hb at hf
  split at h
  ·rename_i fs hu
   cases h
   rw [hu] at hf
   exact ⟨d, hf⟩
  ·cases h
theorem Kw {t : TypeId} (h : GR P t = none) (us : List T) : PH P t us = .e (.one (.pure (us.headD .nil0))) := by
 unfold GR at h
 unfold PH
 revert h
 cases P.underlying t with
 | none => intro _; rfl
 | some k => cases k <;> intro h <;> first | rfl | cases h
theorem Gi {d : Nat} {t : TypeId} {ts : List TypeId} {Ds : List D} (h : Gf P d (t :: ts) Ds) : ∃ us xs, Ds = PH P t us :: xs ∧ Hb P d t us ∧ Gf P d ts xs := by
 cases Ds with
 | nil => exact h.elim
 | cons x xs => obtain ⟨⟨us, h1, rfl⟩, h2⟩ := h; exact ⟨us, xs, rfl, h1, h2⟩
theorem K1 {d : Nat} {Ds : List D} (h : Gf P d [] Ds) : Ds = [] := by
 cases Ds with
 | nil => rfl
 | cons x xs => exact h.elim
end
end Go.Lift
namespace Go.Lift
open List renaming mem_of_getElem? → lM
open List renaming getD_eq_getElem?_getD → lD
open Go.RowKit
variable {P : Program} {X : EC} {ops : Array Oper}
instance : Inhabited AO := ⟨.gone⟩
def Fg (n m b : Nat) : Bool := if AV b then Nat.blt (b - 90000) n else Nat.blt b m
def Mh (G : Gh) (n : Nat) (β : Nat) : Prop := ∃ k, k < n ∧ G.has (90000 + k) β
theorem E3 {k : Nat} (h : k < 1000) : AV (90000 + k) = true := by
 unfold AV
 rw [zB5 (by omega), zB5 (by omega)]; rfl
theorem MV {k : Nat} (h : k < 900) : J2 (90000 + k) = true := by
 unfold J2
 rw [uT]
 exact ⟨zB5 (by omega), zB5 (by omega)⟩
theorem Ga {b : Nat} (h : AV b = true) : ∃ k, k < 1000 ∧ b = 90000 + k := by
 unfold AV at h
 rw [uT] at h
 have h1 := vH h.1
 have h2 := vH h.2
 exact ⟨b - 90000, by omega, by omega⟩
def B6 (P : Program) (f : FuncId) (args : List D) (lent : List (AO × AO)) (rv : List AO) (res : D) : Prop :=
 ∀ (w : World) (G : Gh) (vs : Array Value), (∀ β, G.S β → β < w.heap.size) → N8 P w G.S →
  (∀ (k : Nat) (x : AO × AO), lent[k]? = some x → CG P w G (90000 + k) x.1) →
  (∀ k β, k < lent.length → G.has (90000 + k) β → β < w.heap.size ∧ ¬ G.S β) →
  (∀ k l β, k < lent.length → l < lent.length → G.has (90000 + k) β → G.has (90000 + l) β → k = l) →
  vs.size = args.length → (∀ (j : Nat) (d : D), args[j]? = some d → Ea P w G (Al vs j) d) →
  Calls P f vs w fun e w' => ∃ v G', e = .returned v ∧ Bs (Mh G lent.length) w.heap.size w w' ∧ (∀ β, G.S β → G'.S β) ∧ (∀ β, G'.S β → G.S β ∨ (w.heap.size ≤ β ∧ β < w'.heap.size)) ∧ Ea P w' G' v res ∧
   (∀ (k : Nat) (x : AO × AO), lent[k]? = some x → CG P w' G' (90000 + k) x.2) ∧
   (∀ (k : Nat) (x : AO), rv[k]? = some x → CG P w' G' k x) ∧
   (∀ k, k < lent.length → G'.loc (90000 + k) = G.loc (90000 + k) ∧ G'.hd (90000 + k) = G.hd (90000 + k) ∧ G'.more (90000 + k) = G.more (90000 + k)) ∧
   (∀ k β, k < lent.length → G'.has (90000 + k) β → ¬ G'.S β) ∧
   (∀ k β, k < rv.length → G'.has k β → w.heap.size ≤ β ∧ β < w'.heap.size ∧ ¬ G'.S β) ∧
   (∀ k l β, k < rv.length → l < rv.length → G'.has k β → G'.has l β → k = l)
def Kd (args : List D) (lent : List (AO × AO)) : St := ⟨fun s => args[s]?, fun b => if AV b then (lent[b - 90000]?).map (·.1) else none⟩
def Kv (bx : Nat → Option AO) (f : Nat → Nat) : Nat → List (AO × AO) → Prop
 | _, [] => True
 | k, x :: xs => bx (90000 + k) = some (x.2.ren f) ∧ Kv bx f (k + 1) xs
def LL (bx : Nat → Option AO) (f : Nat → Nat) : Nat → List AO → Prop
 | _, [] => True
 | k, x :: xs => bx (1000 + k) = some (x.ren f) ∧ LL bx f (k + 1) xs
theorem Id {bx : Nat → Option AO} {f : Nat → Nat} : ∀ {l : List (AO × AO)} {m : Nat}, Kv bx f m l → ∀ (k : Nat) (x : AO × AO), l[k]? = some x → bx (90000 + (m + k)) = some (x.2.ren f)
 | y :: rv, m, h, 0, x, hk => by simp at hk; subst hk; exact h.1
 | y :: rv, m, h, k + 1, x, hk => by
  have := Id h.2 k x (by simpa using hk)
  rwa [show m + 1 + k = m + (k + 1) from by omega] at this
theorem Ju {bx : Nat → Option AO} {f : Nat → Nat} : ∀ {l : List AO} {m : Nat}, LL bx f m l → ∀ (k : Nat) (x : AO), l[k]? = some x → bx (1000 + (m + k)) = some (x.ren f)
 | y :: rv, m, h, 0, x, hk => by simp at hk; subst hk; exact h.1
 | y :: rv, m, h, k + 1, x, hk => by
  have := Ju h.2 k x (by simpa using hk)
  rwa [show m + 1 + k = m + (k + 1) from by omega] at this
def Hg (b : Nat) : Nat := if AV b then b else 1000 + b
structure NA (P : Program) (rs : List ResultVar) (st : St) (lent : List (AO × AO)) (rv : List AO) (res : D) : Prop where
 r : ∃ xs, QH P st rs xs ∧ QT xs = res.ren Hg
 l : Kv st.bx Hg 0 lent
 v : LL st.bx Hg 0 rv
def Ey (n m : Nat) (l : List Nat) : Bool := l.all (Fg n m)
theorem BY {f n : Nat} {fn : Func} {c : Code} {args : List D} {lent : List (AO × AO)} {rv : List AO} {res : D} {rs : List ResultVar} (hf : P.funcs[f]? = some fn) (hb : fn.body = some c) (hn : fn.ntmps = n) (hrs : fn.results.toList = rs) (hl : args.length ≤ n) (hn9 : n ≤ 90000)
  (hargs : (args.all fun d => Ey lent.length 0 d.names) = true) (hpre : (lent.all fun x => Ey lent.length 0 x.1.names && x.1.real && x.2.real) = true) (hll : lent.length ≤ 900) (hrl : (rv.all fun x => x.real) = true) (hrn : rv.length ≤ 1000)
  (h : ∀ (w0 : World) (S0 : Nat → Prop) (GL : Gh), W P ⟨w0, S0, n, GL⟩ c (fun e st => match e with | .normal | .ret => NA P rs st lent rv res | _ => False) (Kd args lent)) : B6 P f args lent rv res := by
 subst hn; subst hrs
 intro w G vs hS hgk hlb hla hli hlen hrd
 refine calls_of_wp hf hb ?_
 have hcell : ∀ j, j < args.length → Al (vs ++ zC9 (fn.ntmps - vs.size) undef) j = Al vs j := fun j hj => Bu (by omega)
 -- the ghost that knows of what is lent alone
 let dom : Nat → Prop := fun b => AV b = true ∧ b - 90000 < lent.length
 have hdec : ∀ b, Decidable (dom b) := fun b => inferInstanceAs (Decidable (_ ∧ _))
 let GL : Gh := { S := G.S, loc := fun b => if dom b then G.loc b else none, hd := fun b => if dom b then G.hd b else undef, more := fun b => if dom b then G.more b else fun _ => False }
 have hext : G.ext GL dom := ⟨fun _ h => h, fun b hb => if_pos hb, fun b hb => if_pos hb, fun b hb => if_pos hb⟩
 have hdomk : ∀ k, k < lent.length → dom (90000 + k) := fun k hk => ⟨E3 (by omega), by omega⟩
 have hin : ∀ b, Fg lent.length 0 b = true → dom b := by
  intro b hb
  unfold Fg at hb
  split at hb
  ·rename_i hl; exact ⟨hl, by rwa [zB1] at hb⟩
  ·simp [Nat.blt] at hb
 have hhas : ∀ b β, GL.has b β → dom b ∧ G.has b β := by
  intro b β hb
  by_cases hd : dom b
  ·exact ⟨hd, (hext.has hd).1 hb⟩
  ·exfalso
   unfold Gh.has at hb
   simp only [GL] at hb
   rw [if_neg hd, if_neg hd] at hb
   rcases hb with h | h
   ·cases h
   ·exact h
 have hlent : ∀ β, GL.lent β ↔ Mh G lent.length β := by
  intro β
  constructor
  ·rintro ⟨b, hb, hb2⟩
   obtain ⟨hd, hg⟩ := hhas b β hb2
   obtain ⟨k, _, rfl⟩ := Ga hb
   exact ⟨k, by have := hd.2; omega, hg⟩
  ·rintro ⟨k, hk, hg⟩
   exact ⟨90000 + k, E3 (by omega), (hext.has (hdomk k hk)).2 hg⟩
 have hbx : ∀ b k, (Kd args lent).bx b = some k → dom b ∧ ∃ x, lent[b - 90000]? = some x ∧ x.1 = k := by
  intro b k hk
  simp only [Kd] at hk
  split at hk
  ·rename_i hb
   cases hx : lent[b - 90000]? with
   | none => rw [hx] at hk; cases hk
   | some x => rw [hx] at hk; cases hk; exact ⟨⟨hb, Ar hx⟩, x, rfl, rfl⟩
  ·cases hk
 have hdn : ∀ b, dom b → ((Kd args lent).bx b).isSome = true := by
  intro b hb
  simp only [Kd]
  rw [if_pos hb.1]
  simp [hb.2]
 have hpre' : ∀ x, x ∈ lent → Ey lent.length 0 x.1.names = true ∧ x.1.real = true ∧ x.2.real = true := fun x hx => by
  have := uU.1 hpre x hx
  rw [uT, uT] at this
  exact ⟨this.1.1, this.1.2, this.2⟩
 have hbk : ∀ b, dom b → b = 90000 + (b - 90000) := fun b hb => by obtain ⟨k, _, e⟩ := Ga hb.1; omega
 have hinit : Br P ⟨w, G.S, fn.ntmps, GL⟩ GL (Kd args lent) { tmps := vs ++ zC9 (fn.ntmps - vs.size) undef, defers := [] } w := by
  refine { S_lt := hS, S_src := fun β h => .inl h, S_0 := fun β h => h, S0_lt := hS, tsz := by simp; omega, defers := rfl, below := Bs.refl _ _ _, gok := hgk, nlt := hn9, lent := fun _ _ => ⟨rfl, rfl, rfl⟩, blk := ?_, at_ok := ?_, at_inj := ?_, env := ?_, live := ?_, liveB := ?_ }
  ·intro b k hk
   obtain ⟨hd, x, hx, rfl⟩ := hbx b k hk
   have h1 := hlb _ x hx
   rw [← hbk b hd] at h1
   exact h1.mono hext hd (fun _ _ => rfl) (fun _ _ _ => rfl) fun c hc => hin c (uU.1 (hpre' x (lM hx)).1 c hc)
  ·intro b k β hk hr hβ
   obtain ⟨hd, hg⟩ := hhas b β hβ
   rw [hbk b hd] at hg
   have := hla _ β hd.2 hg
   exact ⟨⟨fun h3 => (by rw [hd.1] at h3; cases h3), .inr ⟨b, hd.1, hβ⟩⟩, this.1, this.2⟩
  ·intro b c k l β hk hl hr hr' hβ hβ'
   obtain ⟨hd, hg⟩ := hhas b β hβ
   obtain ⟨hd', hg'⟩ := hhas c β hβ'
   rw [hbk b hd] at hg
   rw [hbk c hd'] at hg'
   have := hli _ _ β hd.2 hd'.2 hg hg'
   rw [hbk b hd, hbk c hd', this]
  ·intro s d hs
   have hs' : args[s]? = some d := hs
   rw [hcell s (Ar hs')]
   exact (hrd s d hs').mono hext (fun _ _ => rfl) fun b hb => hin b (uU.1 (uU.1 hargs d (lM hs')) b hb)
  ·intro s d hs b hb
   have hs' : args[s]? = some d := hs
   exact hdn b (hin b (uU.1 (uU.1 hargs d (lM hs')) b hb))
  ·intro b k hk c hc
   obtain ⟨hd, x, hx, rfl⟩ := hbx b k hk
   exact hdn c (hin c (uU.1 (hpre' x (lM hx)).1 c hc))
 refine wp_mono (h w G.S GL _ w ⟨_, hinit⟩) ?_
 rintro e a' w' ⟨st', hq, G2, hs⟩
 have key : NA P fn.results.toList st' lent rv res → a'.defers = [] ∧ ∃ v, (results fn a'.tmps).run P w' = .ok v w' ∧ ∃ v' G', Ending.returned v = .returned v' ∧ Bs (Mh G lent.length) w.heap.size w w' ∧ (∀ β, G.S β → G'.S β) ∧ (∀ β, G'.S β → G.S β ∨ (w.heap.size ≤ β ∧ β < w'.heap.size)) ∧ Ea P w' G' v' res ∧
   (∀ (k : Nat) (x : AO × AO), lent[k]? = some x → CG P w' G' (90000 + k) x.2) ∧
   (∀ (k : Nat) (x : AO), rv[k]? = some x → CG P w' G' k x) ∧
   (∀ k, k < lent.length → G'.loc (90000 + k) = G.loc (90000 + k) ∧ G'.hd (90000 + k) = G.hd (90000 + k) ∧ G'.more (90000 + k) = G.more (90000 + k)) ∧
   (∀ k β, k < lent.length → G'.has (90000 + k) β → ¬ G'.S β) ∧
   (∀ k β, k < rv.length → G'.has k β → w.heap.size ≤ β ∧ β < w'.heap.size ∧ ¬ G'.S β) ∧
   (∀ k l β, k < rv.length → l < rv.length → G'.has k β → G'.has l β → k = l) := by
  rintro ⟨⟨xs, hr1, hr2⟩, hlp, hv⟩
  obtain ⟨us, h1, h2, h3⟩ := hs.rrs hr1
  have hoL : ∀ k, k < lent.length → Hg (90000 + k) = 90000 + k := fun k hk => by unfold Hg; rw [E3 (by omega)]; rfl
  have hoN : ∀ k, k < rv.length → Hg k = 1000 + k := fun k hk => by unfold Hg; rw [FT (show k < 1000 by omega) (by omega)]; rfl
  have hbl : ∀ (k : Nat) (x : AO × AO), lent[k]? = some x → st'.bx (90000 + k) = some (x.2.ren Hg) := fun k x hk => by
   have := Id hlp k x hk
   rwa [uY] at this
  have hbv : ∀ (k : Nat) (x : AO), rv[k]? = some x → st'.bx (1000 + k) = some (x.ren Hg) := fun k x hk => by
   have := Ju hv k x hk
   rwa [uY] at this
  have hreal : ∀ (k : Nat) (x : AO), rv[k]? = some x → (x.ren Hg).real = true := fun k x hk => by
   rw [FL]; exact uU.1 hrl x (lM hk)
  have hgl : ∀ k, k < lent.length → G2.loc (90000 + k) = G.loc (90000 + k) ∧ G2.hd (90000 + k) = G.hd (90000 + k) ∧ G2.more (90000 + k) = G.more (90000 + k) := fun k hk => by
   obtain ⟨e1, e2, e3⟩ := hs.lent (90000 + k) (MV (by omega))
   exact ⟨e1.trans (hext.loc _ (hdomk k hk)), e2.trans (hext.hd _ (hdomk k hk)), e3.trans (hext.more _ (hdomk k hk))⟩
  refine ⟨hs.defers, (if h : us.toArray.size = 1 then us.toArray[0] else .tuple us.toArray), ?_, _, { S := G2.S, loc := fun b => G2.loc (Hg b), hd := fun b => G2.hd (Hg b), more := fun b => G2.more (Hg b) }, rfl, ?_, hs.S_0, ?_, ?_, ?_, ?_, ?_, ?_, ?_, ?_⟩
  ·unfold results
   refine Ab (a := us.toArray) (w1 := w') ?_ rfl
   rw [Array.mapM_eq_mapM_toList]
   simp only [Sem.run_map]
   exact congrArg (fun r => Result.andThen r fun a w' => Result.ok a.toArray w') h1
  ·have hb := hs.below
   exact ⟨hb.os, hb.tape, hb.output, hb.size, hb.drawn, fun k hk hl => hb.block k hk fun h => hl ((hlent k).1 h)⟩
  ·intro β hβ
   rcases hs.S_src β hβ with h | h
   ·exact .inl h
   ·exact .inr ⟨h, hs.S_lt β hβ⟩
  ·refine Gl (f := Hg) ?_
   rw [← hr2]
   match xs, us, h2 with
   | [], [], _ => exact ⟨#[], rfl, rfl, fun j x h => by simp at h⟩
   | [x], [u], _ => exact h3 0 u x rfl rfl
   | x :: y :: xs, u :: u' :: us, hl2 =>
    refine ⟨(u :: u' :: us).toArray, by simp, by simpa using hl2, fun j z hj => ?_⟩
    have hlt := Ar hj
    have hu : (u :: u' :: us)[j]? = some ((u :: u' :: us)[j]'(by rw [hl2]; exact hlt)) := by rw [vK]
    have := h3 j _ z hu hj
    have hc : Al (u :: u' :: us).toArray j = (u :: u' :: us)[j]'(by rw [hl2]; exact hlt) := by
     unfold Al
     rw [List.getElem?_toArray, hu]; rfl
    rw [hc]; exact this
  ·intro k x hk
   refine Gj (f := Hg) ?_
   rw [hoL k (Ar hk)]
   exact hs.blk _ _ (hbl k x hk)
  ·intro k x hk
   refine Gj (f := Hg) ?_
   rw [hoN k (Ar hk)]
   exact hs.blk _ _ (hbv k x hk)
  ·intro k hk
   simp only [hoL k hk]
   exact hgl k hk
  ·intro k β hk hβ
   have hx : lent[k]? = some lent[k] := by simp [hk]
   have hβ : G2.has (90000 + k) β := by
    unfold Gh.has at hβ ⊢
    simp only [hoL k hk] at hβ
    exact hβ
   exact (hs.at_ok _ _ β (hbl k _ hx) (by rw [FL]; exact (hpre' _ (lM hx)).2.2) hβ).2.2
  ·intro k β hk hβ
   have hx : rv[k]? = some rv[k] := by simp [hk]
   have hβ : G2.has (1000 + k) β := by
    unfold Gh.has at hβ ⊢
    simp only [hoN k hk] at hβ
    exact hβ
   have := hs.at_ok _ _ β (hbv k _ hx) (hreal k _ hx) hβ
   exact ⟨this.1.1 (FT (show 1000 + k < 3000 by omega) (by omega)), this.2⟩
  ·intro k l β hk hl hβ hβ'
   have hx : rv[k]? = some rv[k] := by simp [hk]
   have hx' : rv[l]? = some rv[l] := by simp [hl]
   have hβ : G2.has (1000 + k) β := by
    unfold Gh.has at hβ ⊢
    simp only [hoN k hk] at hβ
    exact hβ
   have hβ' : G2.has (1000 + l) β := by
    unfold Gh.has at hβ' ⊢
    simp only [hoN l hl] at hβ'
    exact hβ'
   have := hs.at_inj _ _ _ _ β (hbv k _ hx) (hbv l _ hx') (hreal k _ hx) (hreal l _ hx') hβ hβ'
   omega
 cases e with
 | normal => exact key hq
 | ret => exact key hq
 | _ => exact hq.elim
def nu (ls ns : List Nat) (b : Nat) : Nat := if AV b then ls.getD (b - 90000) 0 else ns.getD b 0
def Jo (f : Nat → Nat) : List Nat → List (AO × AO) → List (Nat × AO)
 | l :: ls, x :: xs => (l, x.1.ren f) :: Jo f ls xs
 | _, _ => []
def Fd (f : Nat → Nat) : List Nat → List (AO × AO) → List Bool → List (Nat × AO) → List (Nat × AO)
 | l :: ls, x :: xs, c :: cs, r => if c then (l, x.2.ren f) :: Fd f ls xs cs r else Fd f ls xs cs r
 | _, _, _, r => r
def newB (f : Nat → Nat) : List Nat → List AO → List (Nat × AO)
 | n :: ns, x :: xs => (n, x.ren f) :: newB f ns xs
 | _, _ => []
def L6 : List (AO × AO) → List Bool → Prop
 | x :: xs, c :: cs => (c = false → x.1 = x.2) ∧ L6 xs cs
 | [], [] => True
 | _, _ => False
theorem J1 {f : Nat → Nat} {bx : Nat → Option AO} : ∀ {ls : List Nat} {lent : List (AO × AO)}, ls.length = lent.length → Ej bx (Jo f ls lent) → ∀ (k : Nat) (x : AO × AO), lent[k]? = some x → bx (nm ls k) = some (x.1.ren f)
 | [], [], _, _, k, y, hk => by simp at hk
 | l :: ls, x :: xs, hl, h, 0, y, hk => by simp at hk; subst hk; exact h.1
 | l :: ls, x :: xs, hl, h, k + 1, y, hk => by
  have := J1 (ls := ls) (lent := xs) (by simpa using hl) h.2 k y (by simpa using hk)
  simpa [nm] using this
theorem JV {f : Nat → Nat} {bx : Nat → Option AO} {r : List (Nat × AO)} : ∀ {ls : List Nat} {lent : List (AO × AO)} {ch : List Bool}, ls.length = lent.length → ls.Nodup → L6 lent ch → (∀ c, c ∈ ls → AT bx r c = bx c) → Ej bx (Jo f ls lent) →
  (∀ c, c ∉ ls → AT bx (Fd f ls lent ch r) c = AT bx r c) ∧ ∀ (k : Nat) (x : AO × AO), lent[k]? = some x → AT bx (Fd f ls lent ch r) (nm ls k) = some (x.2.ren f)
 | [], [], [], _, _, _, _, _ => ⟨fun _ _ => rfl, fun k x h => by simp at h⟩
 | [], [], _ :: _, _, _, h, _, _ => h.elim
 | l :: ls, x :: xs, [], hl, hnd, hc, hr, hp => by cases hc
 | l :: ls, x :: xs, c :: cs, hl, hnd, hc, hr, hp => by
  have ih := JV (f := f) (bx := bx) (r := r) (ls := ls) (lent := xs) (ch := cs) (by simpa using hl) (zA2.1 hnd).2 hc.2 (fun c hc => hr c (by simp [hc])) hp.2
  have hln : l ∉ ls := (zA2.1 hnd).1
  have hl0 : AT bx (Fd f ls xs cs r) l = bx l := (ih.1 l hln).trans (hr l (by simp))
  refine ⟨fun d hd => ?_, fun k y hk => ?_⟩
  ·simp only [uZ, not_or] at hd
   simp only [Fd]
   split
   ·simp only [AT]; rw [if_neg hd.1]; exact ih.1 d hd.2
   ·exact ih.1 d hd.2
  ·cases k with
   | zero =>
    simp at hk; subst hk
    simp only [Fd, nm, List.getD_cons_zero]
    split
    ·simp [AT]
    ·rename_i hcc
     have hcf : c = false := by simpa using hcc
     rw [hl0, hp.1, hc.1 hcf]
   | succ k =>
    have hk' : xs[k]? = some y := by simpa using hk
    have hlt := Ar hk'
    have hlt2 : k < ls.length := by simp at hl; omega
    have e : nm (l :: ls) (k + 1) = nm ls k := by simp [nm]
    rw [e]
    have hne : nm ls k ≠ l := fun h => hln (h ▸ CX hlt2)
    simp only [Fd]
    split
    ·simp only [AT]; rw [if_neg hne]; exact ih.2 k y hk'
    ·exact ih.2 k y hk'
theorem Jv {f : Nat → Nat} {bx : Nat → Option AO} : ∀ {ns : List Nat} {rv : List AO} {c : Nat}, ns.length = rv.length → ns.Nodup →
  (c ∉ ns → AT bx (newB f ns rv) c = bx c) ∧ ∀ (k : Nat) (x : AO), rv[k]? = some x → AT bx (newB f ns rv) (nm ns k) = some (x.ren f)
 | [], [], c, _, _ => ⟨fun _ => rfl, fun k x h => by simp at h⟩
 | n :: ns, x :: xs, c, hl, hnd => by
  have ih := Jv (f := f) (bx := bx) (ns := ns) (rv := xs) (c := c) (by simpa using hl) (zA2.1 hnd).2
  refine ⟨fun hc => ?_, fun k y hk => ?_⟩
  ·simp only [uZ, not_or] at hc
   simp only [newB, AT]
   rw [if_neg hc.1]; exact ih.1 hc.2
  ·cases k with
   | zero => simp at hk; subst hk; simp [newB, AT, nm]
   | succ k =>
    have hk' : xs[k]? = some y := by simpa using hk
    have hlt := Ar hk'
    have hlt2 : k < ns.length := by simp at hl; omega
    have : nm (n :: ns) (k + 1) = nm ns k := by simp [nm]
    rw [this]
    have hne : nm ns k ≠ n := fun e => (zA2.1 hnd).1 (e ▸ CX hlt2)
    simp only [newB, AT]
    rw [if_neg hne]
    exact (Jv (f := f) (bx := bx) (ns := ns) (rv := xs) (c := c) (by simpa using hl) (zA2.1 hnd).2).2 k y hk'
theorem D7 {ls ns : List Nat} {k : Nat} (h : k < 1000) : nu ls ns (90000 + k) = nm ls k := by
 unfold nu nm; rw [E3 h, if_pos rfl, show 90000 + k - 90000 = k from by omega]
theorem H8 {ls ns : List Nat} {k : Nat} (h : k < 90000) : nu ls ns k = nm ns k := by
 unfold nu nm; rw [FT h (zB8 _), if_neg (by simp)]
theorem I5 {bx : Nat → Option AO} {c : Nat} : ∀ {wb : List (Nat × AO)}, (bx c).isSome = true → (AT bx wb c).isSome = true
 | [], h => h
 | p :: ps, h => by
  simp only [AT]; split
  ·rfl
  ·exact I5 h
section run
variable {dr : Bool} {Q : St → Prop} {r i : Nat} {st : St} {log : List (Nat × A3)} {o : Oper} {gs : List (Operand × D)}
theorem NZ {f s : Nat} {xs : List Operand} {ds0 ds : List D} {lent : List (AO × AO)} {rv : List AO} {res : D} {ts : Array TypeId} (ls ns : List Nat) (ch : List Bool) (hc : B6 P f ds lent rv res) (hat : At st.env ops i X.n (.call ⟨.value (.func f), xs.toArray, ts⟩) s gs)
  (hf : Av P f = true) (hl : xs.length = ds0.length) (hds : ds0.map D.nrm = ds.map (D.ren (nu ls ns)))
  (hll : ls.length = lent.length) (hln : ls.Nodup) (hns : ns.length = rv.length) (hndl : GW ns) (hch : L6 lent ch)
  (hlim : (zA8 lent.length 1000 && zA8 rv.length 1000) = true) (hre : (lent.all fun x => x.1.real && x.2.real) = true)
  (hnm : (Ey lent.length rv.length res.names && (lent.all fun x => Ey lent.length rv.length x.2.names) && rv.all fun x => Ey lent.length rv.length x.names) = true) : LR P X ops i ⟨gs ++ Em xs ds0, Jo (nu ls ns) ls lent, some s, some (res.ren (nu ls ns)), Fd (nu ls ns) ls lent ch (newB (nu ls ns) ns rv), ns⟩ := by
 obtain ⟨o, ho, hop, hd, hn, hg, hgp⟩ := hat.out
 have hnd := hndl.1
 rw [uT] at hlim
 have hlim1 := vH hlim.1
 have hlim2 := vH hlim.2
 rw [uT, uT] at hnm
 obtain ⟨⟨hnmR, hnmL⟩, hnmV⟩ := hnm
 have hre' : ∀ x, x ∈ lent → x.1.real = true ∧ x.2.real = true := fun x hx => by
  have := uU.1 hre x hx
  rw [uT] at this
  exact this
 intro st a w K Q' hs hpre hK
 obtain ⟨G, hs⟩ := hs
 have hx := (Af.1 hpre.r).2
 have hw := hs.wanted hg (Af.1 hpre.r).1
 have hnew := hpre.n
 have hlb := hpre.b
 have hnew' : ∀ c, c ∈ ns → st.bx c = none := by
  have : ∀ {l : List Nat}, H4 st.bx l → ∀ c, c ∈ l → st.bx c = none := by
   intro l
   induction l with
   | nil => intro _ c hc; cases hc
   | cons b l ih =>
    intro h c hc
    rcases uZ.1 hc with e | e
    ·subst e; exact h.1
    ·exact ih h.2 c e
  exact this hnew
 have hget := fun k x hk => J1 (f := nu ls ns) hll hlb k x hk
 have hlk : ∀ k, k < lent.length → st.bx (nm ls k) = some (lent[k]!.1.ren (nu ls ns)) ∧ (lent[k]!.1.ren (nu ls ns)).real = true := fun k hk => by
  have hx0 : lent[k]? = some lent[k]! := by simp [hk]
  exact ⟨hget k _ hx0, by rw [FL]; exact (hre' _ (lM hx0)).1⟩
 have hlsns : ∀ c, c ∈ ls → c ∉ ns := fun c hc hm => by
  obtain ⟨k, hk, e⟩ := Jq hc
  have := (hlk k (by omega)).1
  rw [e, hnew' c hm] at this; cases this
 unfold wpOp
 rw [ho]
 simp only [hw, if_true]
 refine .inl ?_
 unfold Oper.wp
 have hrun : (execOp a.eval o).run P w = .ok (.enter f (xs.toArray.map a.eval)) w := by
  simp only [execOp, hop]
  exact GD hf rfl
 rw [hrun]
 show Calls P f (xs.toArray.map a.eval) w _
 let Gc : Gh := { S := G.S, loc := fun b => G.loc (nu ls ns b), hd := fun b => G.hd (nu ls ns b), more := fun b => G.more (nu ls ns b) }
 have hGc : ∀ k β, k < lent.length → (Gc.has (90000 + k) β ↔ G.has (nm ls k) β) := fun k β hk => by
  unfold Gh.has; simp only [Gc]; rw [D7 (by omega)]
 refine (hc w Gc (xs.toArray.map a.eval) hs.S_lt hs.gok ?_ ?_ ?_ ?_ ?_).mono ?_
 ·intro k x hk
  refine Gj (f := nu ls ns) ?_
  rw [D7 (by have := Ar hk; omega)]
  exact hs.blk _ _ (hget k x hk)
 ·intro k β hk hβ
  have h1 := hlk k hk
  exact (hs.at_ok _ _ β h1.1 h1.2 ((hGc k β hk).1 hβ)).2
 ·intro k l β hk hl' hβ hβ'
  have h1 := hlk k hk
  have h2 := hlk l hl'
  have := hs.at_inj _ _ _ _ β h1.1 h2.1 h1.2 h2.2 ((hGc k β hk).1 hβ) ((hGc l β hl').1 hβ')
  exact Kk hln (by omega) (by omega) this
 ·have h1 := congrArg zB7 hds
  simp at h1
  simp; omega
 ·intro j d hj
  have hj2 : (ds.map (D.ren (nu ls ns)))[j]? = some (d.ren (nu ls ns)) := by rw [uX, hj]; rfl
  rw [← hds, uX] at hj2
  obtain ⟨d0, hj0, hd0⟩ : ∃ d0, ds0[j]? = some d0 ∧ d0.nrm = d.ren (nu ls ns) := by
   cases hx0 : ds0[j]? with
   | none => rw [hx0] at hj2; cases hj2
   | some d0 => rw [hx0] at hj2; exact ⟨d0, rfl, by simpa using hj2⟩
  have hlt := Ar hj0
  have hxj : xs[j]? = some (xs[j]'(by omega)) := by simp [show j < xs.length from by omega]
  have hop' := FU hl hx j _ d0 hxj hj0
  have hcell : Al (xs.toArray.map a.eval) j = a.eval (xs[j]'(by omega)) := by simp [Al, show j < xs.length from by omega]
  rw [hcell]
  refine Gl (f := nu ls ns) ?_
  rw [← hd0]
  exact (hs.opd hop').nrm
 ·rintro e w' ⟨v, G', rfl, hbel, hS1, hS2, hres', hpost, hvec, hsame, hlS, hvat, hvinj⟩
  show K (a.put o.dst v) w'
  rw [hd]
  let G2 : Gh := { S := G'.S, loc := fun c => if c ∈ ns then G'.loc (ns.idxOf c) else G.loc c, hd := fun c => if c ∈ ns then G'.hd (ns.idxOf c) else G.hd c, more := fun c => if c ∈ ns then G'.more (ns.idxOf c) else G.more c }
  have hidx : ∀ k, k < ns.length → ns.idxOf (nm ns k) = k := by
   intro k hk
   have hm := CX hk
   have h1 : ns.idxOf (nm ns k) < ns.length := List.idxOf_lt_length_of_mem hm
   refine Kk hnd h1 hk ?_
   have h2 := List.getElem_idxOf h1
   show ns.getD (ns.idxOf (nm ns k)) 0 = nm ns k
   rw [lD, vK h1, vY, h2]
  have hvia : G'.via G2 (nu ls ns) (fun b => Fg lent.length rv.length b = true) := by
   have key : ∀ b, Fg lent.length rv.length b = true → (∃ k, k < lent.length ∧ b = 90000 + k) ∨ (b < rv.length ∧ AV b = false) := by
    intro b hb
    unfold Fg at hb
    split at hb
    ·rename_i h
     obtain ⟨k, _, rfl⟩ := Ga h
     rw [zB1] at hb
     exact .inl ⟨k, by omega, rfl⟩
    ·rename_i h
     rw [zB1] at hb
     exact .inr ⟨hb, by simpa using h⟩
   refine ⟨fun β h => h, fun b hb => ?_, fun b hb => ?_, fun b hb => ?_⟩
   ·rcases key b hb with ⟨k, hk, rfl⟩ | ⟨hb1, hb2⟩
    ·rw [D7 (by omega)]
     have hni : nm ls k ∉ ns := hlsns _ (CX (by omega))
     simp only [G2]; rw [if_neg hni, (hsame k hk).1]; simp only [Gc]; rw [D7 (by omega)]
    ·rw [H8 (by omega)]
     simp only [G2]; rw [if_pos (CX (by omega)), hidx b (by omega)]
   ·rcases key b hb with ⟨k, hk, rfl⟩ | ⟨hb1, hb2⟩
    ·rw [D7 (by omega)]
     have hni : nm ls k ∉ ns := hlsns _ (CX (by omega))
     simp only [G2]; rw [if_neg hni, (hsame k hk).2.1]; simp only [Gc]; rw [D7 (by omega)]
    ·rw [H8 (by omega)]
     simp only [G2]; rw [if_pos (CX (by omega)), hidx b (by omega)]
   ·rcases key b hb with ⟨k, hk, rfl⟩ | ⟨hb1, hb2⟩
    ·rw [D7 (by omega)]
     have hni : nm ls k ∉ ns := hlsns _ (CX (by omega))
     simp only [G2]; rw [if_neg hni, (hsame k hk).2.2]; simp only [Gc]; rw [D7 (by omega)]
    ·rw [H8 (by omega)]
     simp only [G2]; rw [if_pos (CX (by omega)), hidx b (by omega)]
  have hext : G.ext G2 (fun b => (st.bx b).isSome = true) := by
   have : ∀ b, (st.bx b).isSome = true → b ∉ ns := fun b hb hm => by rw [hnew' b hm] at hb; cases hb
   exact ⟨fun β h => hS1 β h, fun b hb => by simp only [G2]; rw [if_neg (this b hb)], fun b hb => by simp only [G2]; rw [if_neg (this b hb)], fun b hb => by simp only [G2]; rw [if_neg (this b hb)]⟩
  have hnotL : ∀ β, Mh Gc lent.length β → ∃ k, k < lent.length ∧ G.has (nm ls k) β := fun β ⟨k, hk, hb⟩ => ⟨k, hk, (hGc k β hk).1 hb⟩
  have hwS : ∀ β, G.S β → w'.heap[β]? = w.heap[β]? := fun β hβ => hbel.block β (hs.S_lt β hβ) fun h => by
   obtain ⟨k, hk, hg⟩ := hnotL β h
   exact (hs.at_ok _ _ β (hlk k hk).1 (hlk k hk).2 hg).2.2 hβ
  have hsz := hbel.size
  have hle := hs.below.size
  have hng := fun c => Jv (f := nu ls ns) (bx := st.bx) (ns := ns) (rv := rv) (c := c) hns hnd
  have hbg := JV (f := nu ls ns) (bx := st.bx) (r := newB (nu ls ns) ns rv) (ls := ls) (lent := lent) (ch := ch) hll hln hch (fun c hc => (hng c).1 (hlsns c hc)) hlb
  have hblk : ∀ c k, AT st.bx (Fd (nu ls ns) ls lent ch (newB (nu ls ns) ns rv)) c = some k →
    (c ∉ ns ∧ c ∉ ls ∧ st.bx c = some k) ∨ (∃ m x, m < ns.length ∧ nm ns m = c ∧ rv[m]? = some x ∧ k = x.ren (nu ls ns)) ∨ (∃ m x, m < ls.length ∧ nm ls m = c ∧ lent[m]? = some x ∧ k = x.2.ren (nu ls ns)) := by
   intro c k hc
   by_cases hm : c ∈ ls
   ·obtain ⟨m, hm1, hm2⟩ := Jq hm
    have hlx : lent[m]? = some (lent[m]'(by omega)) := by simp [show m < lent.length from by omega]
    have := hbg.2 m _ hlx
    rw [hm2, hc] at this
    exact .inr (.inr ⟨m, _, hm1, hm2, hlx, by simpa using this⟩)
   ·rw [hbg.1 c hm] at hc
    by_cases hm2 : c ∈ ns
    ·obtain ⟨m, hm1, hm3⟩ := Jq hm2
     have hrx : rv[m]? = some (rv[m]'(by omega)) := by simp [show m < rv.length from by omega]
     have := (hng c).2 m _ hrx
     rw [hm3, hc] at this
     exact .inr (.inl ⟨m, _, hm1, hm3, hrx, by simpa using this⟩)
    ·rw [(hng c).1 hm2] at hc; exact .inl ⟨hm2, hm, hc⟩
  have hdom : ∀ b, Fg lent.length rv.length b = true → (AT st.bx (Fd (nu ls ns) ls lent ch (newB (nu ls ns) ns rv)) (nu ls ns b)).isSome = true := by
   intro b hb
   unfold Fg at hb
   split at hb
   ·rename_i h
    obtain ⟨k, _, rfl⟩ := Ga h
    rw [zB1] at hb
    have hk : k < lent.length := by omega
    rw [D7 (by omega), hbg.2 k _ (show lent[k]? = some lent[k] by simp [hk])]; rfl
   ·rename_i h
    rw [zB1] at hb
    have hni : nm ns b ∉ ls := fun hm => hlsns _ hm (CX (by omega))
    rw [H8 (by omega), hbg.1 _ hni, (hng (nm ns b)).2 b _ (show rv[b]? = some rv[b] by simp [hb])]; rfl
  have hren : ∀ l : List Nat, Ey lent.length rv.length l = true → ∀ b, b ∈ l → Fg lent.length rv.length b = true := fun l h b hb => uU.1 h b hb
  have hrenB : ∀ (k : AO) b, b ∈ (k.ren (nu ls ns)).names → ∃ b0, b0 ∈ k.names ∧ b = nu ls ns b0 := by
   intro k b hb
   cases k with
   | box cs =>
    obtain ⟨c, hc, hb⟩ := AI.1 hb
    obtain ⟨c0, h0, rfl⟩ := vW.1 hc
    obtain ⟨b0, h1, h2⟩ := Gv hb
    exact ⟨b0, AI.2 ⟨c0, h0, h1⟩, h2⟩
   | vec e rows => cases hb
   | mp es => cases hb
   | dvec e cols rs => cases hb
   | pvec n e cols rs => cases hb
   | hol e cols i0 k0 c rs => exact ⟨c, by simp [AO.names], by simpa [AO.ren, AO.names] using hb⟩
   | gone => cases hb
  have hhasN : ∀ m β, m < ns.length → (G2.has (nm ns m) β ↔ G'.has m β) := fun m β hm => by
   have hmd : Fg lent.length rv.length m = true := by
    unfold Fg; rw [FT (show m < 90000 by omega) (zB8 _), if_neg (by simp), zB1]; omega
   have := hvia.has (β := β) hmd
   rwa [H8 (by omega)] at this
  have key : Br P X G2 ⟨st.env, AT st.bx (Fd (nu ls ns) ls lent ch (newB (nu ls ns) ns rv))⟩ a w' := by
   refine hs.frame (fun c hc => I5 hc) hext hwS ?_ ?_ ?_ ?_ ?_ ?_ (fun b hb => by
    have : b ∉ ns := fun hm => by rw [hndl.2 b hm] at hb; cases hb
    simp only [G2]; rw [if_neg this, if_neg this, if_neg this]; exact ⟨rfl, rfl, rfl⟩)
   ·intro c k hc
    rcases hblk c k hc with ⟨_, h0, h1⟩ | ⟨m, x, h1, h2, h3, h4⟩ | ⟨m, x, h1, h2, h3, h4⟩
    ·refine .inl ⟨h1, fun β hr hβ => hbel.block β (hs.at_ok c k β h1 hr hβ).2.1 fun hL => ?_⟩
     obtain ⟨j, hj, hg⟩ := hnotL β hL
     exact h0 ((hs.at_inj _ _ _ _ β h1 (hlk j hj).1 hr (hlk j hj).2 hβ hg) ▸ CX (by omega))
    ·subst h4
     have hmd : Fg lent.length rv.length m = true := by
      unfold Fg; rw [FT (show m < 90000 by omega) (zB8 _), if_neg (by simp), zB1]; omega
     have hxn := hren _ (uU.1 hnmV x (lM h3))
     refine .inr ⟨?_, fun c' hc' => ?_⟩
     ·have := (hvec m x h3).ren hvia hmd hxn
      rwa [H8 (by omega), h2] at this
     ·obtain ⟨b0, hb0, rfl⟩ := hrenB x c' hc'
      exact hdom b0 (hxn b0 hb0)
    ·subst h4
     have hmd : Fg lent.length rv.length (90000 + m) = true := by
      unfold Fg; rw [E3 (by omega), if_pos rfl, zB1]; omega
     have hxn := hren _ (uU.1 hnmL x (lM h3))
     refine .inr ⟨?_, fun c' hc' => ?_⟩
     ·have := (hpost m x h3).ren hvia hmd hxn
      rwa [D7 (by omega), h2] at this
     ·obtain ⟨b0, hb0, rfl⟩ := hrenB x.2 c' hc'
      exact hdom b0 (hxn b0 hb0)
   ·intro c k β hc hr hβ
    rcases hblk c k hc with ⟨h0, _, h1⟩ | ⟨m, x, h1, h2, h3, h4⟩ | ⟨m, x, h1, h2, h3, h4⟩
    ·have hβ := (hext.has (by rw [h1]; rfl)).1 hβ
     have := hs.at_ok c k β h1 hr hβ
     refine ⟨this.1, by omega, fun h => ?_⟩
     rcases hS2 β h with h | h
     ·exact this.2.2 h
     ·omega
    ·rw [← h2, hhasN m β h1] at hβ
     have := hvat m β (by omega) hβ
     exact ⟨.new (by omega), this.2.1, this.2.2⟩
    ·subst h2
     have h5 := hlk m (by omega)
     have hβ := (hext.has (by rw [h5.1]; rfl)).1 hβ
     have := hs.at_ok _ _ β h5.1 h5.2 hβ
     refine ⟨this.1, by omega, hlS m β (by omega) ?_⟩
     have h6 := hsame m (by omega)
     unfold Gh.has at hβ ⊢
     rw [h6.1, h6.2.2]
     simp only [Gc]; rw [D7 (by omega)]; exact hβ
   ·intro c c' k k' β hc hc' hr hr' hβ hβ'
    have old : ∀ c k, AT st.bx (Fd (nu ls ns) ls lent ch (newB (nu ls ns) ns rv)) c = some k → k.real = true → G2.has c β → (∃ k0, st.bx c = some k0 ∧ k0.real = true ∧ G.has c β) ∨ ∃ m, m < ns.length ∧ nm ns m = c ∧ G'.has m β := by
     intro c k hc hr hβ
     rcases hblk c k hc with ⟨h0, _, h1⟩ | ⟨m, x, h1, h2, h3, h4⟩ | ⟨m, x, h1, h2, h3, h4⟩
     ·exact .inl ⟨k, h1, hr, (hext.has (by rw [h1]; rfl)).1 hβ⟩
     ·rw [← h2, hhasN m β h1] at hβ
      exact .inr ⟨m, h1, h2, hβ⟩
     ·subst h2
      have h5 := hlk m (by omega)
      exact .inl ⟨_, h5.1, h5.2, (hext.has (by rw [h5.1]; rfl)).1 hβ⟩
    rcases old c k hc hr hβ with ⟨k0, h1, h2, h3⟩ | ⟨m, h1, h2, h3⟩ <;> rcases old c' k' hc' hr' hβ' with ⟨k0', h1', h2', h3'⟩ | ⟨m', h1', h2', h3'⟩
    ·exact hs.at_inj c c' k0 k0' β h1 h1' h2 h2' h3 h3'
    ·have h5 := hvat m' β (by omega) h3'
     have h6 := (hs.at_ok c k0 β h1 h2 h3).2.1
     omega
    ·have h5 := hvat m β (by omega) h3
     have h6 := (hs.at_ok c' k0' β h1' h2' h3').2.1
     omega
    ·have := hvinj m m' β (by omega) (by omega) h3 h3'
     rw [← h2, ← h2', this]
   ·intro β h
    rcases hS2 β h with h | h
    ·have := hs.S_lt β h; omega
    ·exact h.2
   ·intro β h
    rcases hS2 β h with h | h
    ·exact hs.S_src β h
    ·exact .inr (by omega)
   ·refine hs.below.trans ⟨hbel.os, hbel.tape, hbel.output, hbel.size, hbel.drawn, fun k hk hnl => hbel.block k (by omega) fun hL => ?_⟩
    obtain ⟨j, hj, hg⟩ := hnotL k hL
    rcases (hs.at_ok _ _ k (hlk j hj).1 (hlk j hj).2 hg).1.2 with h | h
    ·omega
    ·exact hnl h
  refine hK _ _ ⟨G2, key.put (some s) (some (res.ren (nu ls ns))) v (by intro t e; cases e; exact hn) ?_⟩
  rintro d ⟨⟩
  refine ⟨hres'.ren hvia (hren _ hnmR), fun b hb => ?_⟩
  obtain ⟨b0, h1, h2⟩ := GM hb
  rw [h2]
  exact hdom b0 (hren _ hnmR b0 h1)
theorem Dt {f s : Nat} {xs : List Operand} {ds0 ds : List D} {lent : List (AO × AO)} {rv : List AO} {res : D} {ts : Array TypeId} (ls ns : List Nat) (ch : List Bool) (hc : B6 P f ds lent rv res) (hat : At st.env ops i X.n (.call ⟨.value (.func f), xs.toArray, ts⟩) s gs)
  (hf : Av P f = true) (hl : xs.length = ds0.length) (hx : Cw st.env (Em xs ds0)) (hds : ds0.map D.nrm = ds.map (D.ren (nu ls ns)))
  (hll : ls.length = lent.length) (hln : ls.Nodup) (hlb : Ej st.bx (Jo (nu ls ns) ls lent)) (hns : ns.length = rv.length) (hndl : GW ns) (hnew : H4 st.bx ns) (hch : L6 lent ch)
  (hlim : (zA8 lent.length 1000 && zA8 rv.length 1000) = true) (hre : (lent.all fun x => x.1.real && x.2.real) = true)
  (hnm : (Ey lent.length rv.length res.names && (lent.all fun x => Ey lent.length rv.length x.2.names) && rv.all fun x => Ey lent.length rv.length x.names) = true)
  (next : AE P X ops dr Q r (i + 1) (A3.upd ⟨gs ++ Em xs ds0, Jo (nu ls ns) ls lent, some s, some (res.ren (nu ls ns)), Fd (nu ls ns) ls lent ch (newB (nu ls ns) ns rv), ns⟩ st) ((i, ⟨gs ++ Em xs ds0, Jo (nu ls ns) ls lent, some s, some (res.ren (nu ls ns)), Fd (nu ls ns) ls lent ch (newB (nu ls ns) ns rv), ns⟩) :: log)) : AE P X ops dr Q (r + 1) i st log := by
 obtain ⟨o, ho, hop, hd, hn, hg, hgp⟩ := hat.out
 exact AE.step next ⟨Af.2 ⟨hgp, hx⟩, hlb, hnew⟩ (NZ ls ns ch hc hat hf hl hds hll hln hns hndl hch hlim hre hnm)
end run
end Go.Lift
namespace Go.Lift
open Go.RowKit
variable {P : Program} {X : EC} {ops : Array Oper}
def Kh {α : Type} (xs : List α) (q : Nat) (ys : List α) : List α := xs.take q ++ ys ++ xs.drop (q + ys.length)
theorem I6 {α : Type} {xs ys : List α} {q : Nat} (h : q + ys.length ≤ xs.length) : (Kh xs q ys).length = xs.length := by
 unfold Kh; simp; omega
theorem Mj {α : Type} {xs ys : List α} {q : Nat} (h : q + ys.length ≤ xs.length) (i : Nat) : (Kh xs q ys)[i]? = if q ≤ i ∧ i < q + ys.length then ys[i - q]? else xs[i]? := by
 unfold Kh
 by_cases h1 : i < q
 ·rw [if_neg (by omega), List.append_assoc, vO (by simp; omega), vC h1]
 ·by_cases h2 : i < q + ys.length
  ·rw [if_pos (by omega), vO (by simp; omega), vM (by simp; omega)]
   congr 1; simp; omega
  ·rw [if_neg (by omega), vM (by simp; omega), zA0]
   congr 1; simp; omega
theorem Oi {α β : Type} (f : α → β) (xs ys : List α) (q : Nat) : Kh (xs.map f) q (ys.map f) = (Kh xs q ys).map f := by
 unfold Kh; simp
inductive JI : D → Nat → Nat → List (List T) → Nat → Nat → Prop where
 | own (b e : Nat) (rows : List (List T)) : JI (.e (.one (.own b))) b e rows 0 rows.length
 | view (b e : Nat) (rows : List (List T)) (lo len : Nat) (h : lo + len ≤ rows.length) : JI (.e (.one (.view b e lo len))) b e rows lo len
inductive K3 : D → List (Nat × AO) → Nat → List (List T) → Prop where
 | of {d : D} {rb : List (Nat × AO)} {e : Nat} {rows : List (List T)} (h : PF d rb e rows) : K3 d rb e rows
 | view (b e : Nat) (rows : List (List T)) (lo len : Nat) (h : lo + len ≤ rows.length) : K3 (.e (.one (.view b e lo len))) [(b, .vec e rows)] e ((rows.drop lo).take len)
theorem MT (q : Addr) : q.add 0 = q := by unfold Addr.add; simp
theorem LF {G : Gh} {w : World} {b e : Nat} {rows : List (List T)} (h : CG P w G b (.vec e rows)) : ∃ a cap, G.hd b = .slice a rows.length cap ∧ rows.length ≤ cap ∧
  (0 < cap → ∃ β arr el, a = some ⟨β, 0, none⟩ ∧ G.loc b = some β ∧ w.heap[β]? = some (.cells arr el (0, 0)) ∧ arr.size = cap * e ∧ B7 w G.S arr e 0 rows) := by
 rcases h with ⟨a, h1, h2, _⟩ | ⟨β, cap, arr, el, h0, h1, h2, h3, h4, h5, h6⟩
 ·subst h2; exact ⟨a, 0, h1, zB8 _, fun h => by cases h⟩
 ·exact ⟨_, cap, h1, h3, fun _ => ⟨β, arr, el, rfl, h0, h2, h4, by rw [h4, uY]; exact uV e h3, h5, fun i row j t hi hj => by rw [uY]; exact h6 i row j t hi hj⟩⟩
section run
variable {dr : Bool} {Q : St → Prop} {r i : Nat} {st : St} {log : List (Nat × A3)} {o : Oper} {gs : List (Operand × D)}
theorem Br.dstV {G : Gh} {a : Act} {w : World} (hs : Br P X G st a w) {x : Operand} {d : D} {b e lo len : Nat} {rows : List (List T)} (hx : Lift.opd st.env x = some d) (h : JI d b e rows lo len) (hb : st.bx b = some (.vec e rows)) :
  ∃ p cap', a.eval x = .slice p len cap' ∧ rows.length - lo ≤ cap' ∧ lo + len ≤ rows.length ∧
   (lo < rows.length → ∃ β cap arr el, G.loc b = some β ∧ G.hd b = .slice (some ⟨β, 0, none⟩) rows.length cap ∧ rows.length ≤ cap ∧ p = some ⟨β, lo * e, none⟩ ∧ w.heap[β]? = some (.cells arr el (0, 0)) ∧ arr.size = cap * e ∧ B7 w G.S arr e 0 rows) := by
 obtain ⟨a0, cap, h1, h2, h3⟩ := LF (hs.blk b _ hb)
 have hR := hs.opd hx
 cases h with
 | own =>
  obtain ⟨hR, _⟩ : CI P w G (a.eval x) (.own b) := hR
  refine ⟨a0, cap, hR.trans h1, by omega, by omega, fun hlt => ?_⟩
  obtain ⟨β, arr, el, g1, g2, g3, g4, g5⟩ := h3 (by omega)
  subst g1
  exact ⟨β, cap, arr, el, g2, h1, h2, by simp, g3, g4, g5⟩
 | view _ _ _ _ _ h =>
  obtain ⟨a1, n1, cap1, p, k1, k2, k3, k4⟩ : CI P w G (a.eval x) (.view b e lo len) := hR
  rw [h1] at k1
  cases k1
  refine ⟨p, cap - lo, k3, by omega, h, fun hlt => ?_⟩
  obtain ⟨β, arr, el, g1, g2, g3, g4, g5⟩ := h3 (by omega)
  subst g1
  refine ⟨β, cap, arr, el, g2, h1, h2, ?_, g3, g4, g5⟩
  rw [k4 (by omega)]
  simp [Addr.add_mk]
theorem Br.srcW {G : Gh} {a : Act} {w : World} (hs : Br P X G st a w) {x : Operand} {d : D} {rb : List (Nat × AO)} {e : Nat} {rows : List (List T)} (hx : Lift.opd st.env x = some d) (h : K3 d rb e rows) (hb : Ej st.bx rb) :
  ∃ p cap, a.eval x = .slice p rows.length cap ∧ (rows = [] ∨ ∃ β off arr el fz, p = some ⟨β, off, none⟩ ∧ w.heap[β]? = some (.cells arr el fz) ∧ B7 w G.S arr e off rows) := by
 cases h with
 | of h =>
  have hR := hs.opd hx
  cases h with
  | own b e rows =>
   obtain ⟨hR, _⟩ : CI P w G (a.eval x) (.own b) := hR
   obtain ⟨a0, cap, h1, h2, h3⟩ := LF (hs.blk b _ hb.1)
   refine ⟨a0, cap, hR.trans h1, ?_⟩
   cases rows with
   | nil => exact .inl rfl
   | cons y ys =>
    obtain ⟨β, arr, el, g1, g2, g3, g4, g5⟩ := h3 (by simp at h2; omega)
    exact .inr ⟨β, 0, arr, el, (0, 0), g1, g3, g5⟩
  | sl e rows hrow =>
   have hR : Bo w G.S (a.eval x) (.sl rows) := hR
   generalize a.eval x = v at hR
   cases hR with
   | nil a' cap => exact ⟨_, _, rfl, .inl rfl⟩
   | sl β off cap e' arr el' fz rows h1 h2 h3 h4 h5 h6 =>
    refine ⟨_, _, rfl, ?_⟩
    cases rows with
    | nil => exact .inl rfl
    | cons r0 rs =>
     have he : e' = e := by rw [← hrow 0 r0 rfl]; exact (h5 0 r0 rfl).symm
     subst he
     exact .inr ⟨β, off, arr, el', fz, rfl, h2, h4, h5, h6⟩
  | nil e =>
   have hR : Bo w G.S (a.eval x) .nil0 := hR
   generalize a.eval x = v at hR
   cases hR with
   | nil0 a' => exact ⟨_, _, rfl, .inl rfl⟩
 | view b _ rows lo len h =>
  obtain ⟨p, cap', h1, h2, h3, h4⟩ := hs.dstV hx (.view b e rows lo len h) hb.1
  have hlen : ((rows.drop lo).take len).length = len := by simp; omega
  refine ⟨p, cap', by rw [hlen]; exact h1, ?_⟩
  by_cases hz : len = 0
  ·exact .inl (by rw [hz, List.take_zero])
  ·obtain ⟨β, cap, arr, el, g1, g2, g3, g4, g5, g6, g7⟩ := h4 (by omega)
   refine .inr ⟨β, lo * e, arr, el, (0, 0), g4, g5, ?_, ?_, ?_⟩
   ·rw [hlen, g6, ← vX]; exact uV e (by omega)
   ·intro i row hi
    have := Ar hi
    rw [hlen] at this
    rw [vC this, zA0] at hi
    exact g7.2.1 _ row hi
   ·intro i row j t hi hj
    have := Ar hi
    rw [hlen] at this
    rw [vC this, zA0] at hi
    have := g7.2.2 _ row j t hi hj
    rwa [uY, vX] at this
theorem B7.take {w : World} {S : Nat → Prop} {arr : Array Value} {e off n : Nat} {rows : List (List T)} (h : B7 w S arr e off rows) : B7 w S arr e off (rows.take n) := by
 refine ⟨?_, ?_, ?_⟩
 ·have := h.1
  have h2 : (rows.take n).length * e ≤ rows.length * e := uV e (by simp; omega)
  omega
 ·intro i row hi
  have := Ar hi
  simp at this
  rw [vC (by omega)] at hi
  exact h.2.1 i row hi
 ·intro i row j t hi hj
  have := Ar hi
  simp at this
  rw [vC (by omega)] at hi
  exact h.2.2 i row j t hi hj
theorem Kz {w : World} {S : Nat → Prop} {p : Option Addr} {len cap e n : Nat} {rows : List (List T)} (hn : n ≤ rows.length) (h : rows = [] ∨ ∃ β off arr el fz, p = some ⟨β, off, none⟩ ∧ w.heap[β]? = some (.cells arr el fz) ∧ B7 w S arr e off rows) :
  ∃ news, (Builtin.firstCells e n (.slice p len cap)).run P w = .ok news w ∧ B7 w S news e 0 (rows.take n) ∧ news.size = n * e := by
 rcases h with h | ⟨β, off, arr, el, fz, h1, h2, h3⟩
 ·subst h
  have : n = 0 := by simpa using hn
  subst this
  obtain ⟨news, k1, k2, k3⟩ := C1 (P := P) (w := w) (a := p) (len := len) (cap := cap) (e := e) (S := S)
  exact ⟨news, k1 w rfl, by simpa using k2, by simpa using k3⟩
 ·subst h1
  have hl : (rows.take n).length = n := by simp; omega
  obtain ⟨news, k1, k2, k3⟩ := D4 (P := P) (len := len) (cap := cap) h2 (h3.take (n := n))
  rw [hl] at k1 k3
  exact ⟨news, k1 w rfl, k2, k3⟩
theorem NS {G : Gh} {w : World} {b e β cap q : Nat} {rows rows2 : List (List T)} {arr news : Array Value} {el : TypeId} (hlt : β < w.heap.size) (hnS : ¬ G.S β) (h0 : G.loc b = some β) (h1 : G.hd b = .slice (some ⟨β, 0, none⟩) rows.length cap) (h3 : rows.length ≤ cap) (h4 : arr.size = cap * e) (h5 : B7 w G.S arr e 0 rows)
  (hn : B7 w G.S news e 0 rows2) (hns : news.size = rows2.length * e) (hq : q + rows2.length ≤ rows.length) :
  CG P (DL w β (.cells (C8 arr (q * e) news.toList) el (0, 0))) G b (.vec e (Kh rows q rows2)) := by
 have hle : q * e + rows2.length * e ≤ cap * e := by rw [← vX]; exact uV e (by omega)
 have hS : ∀ γ, G.S γ → (DL w β (.cells (C8 arr (q * e) news.toList) el (0, 0))).heap[γ]? = w.heap[γ]? := fun γ hγ => by
  rw [Ck, if_neg (fun (h : γ = β ∧ β < w.heap.size) => hnS (h.1 ▸ hγ))]
 have hrl : ∀ (i : Nat) (row : List T), (Kh rows q rows2)[i]? = some row → row.length = e := by
  intro i row hi
  rw [Mj hq] at hi
  split at hi
  ·exact hn.2.1 _ row hi
  ·exact h5.2.1 _ row hi
 refine .inr ⟨β, cap, C8 arr (q * e) news.toList, el, h0, by rw [I6 hq]; exact h1, by rw [Ck, if_pos ⟨rfl, hlt⟩], by rw [I6 hq]; exact h3, by rw [Ep, h4], hrl, ?_⟩
 intro i row j t hi hj
 have hj' := Ar hj
 have hre := hrl i row hi
 rw [Mj hq] at hi
 rw [Db _ _ _ _ (by simp; omega)]
 simp only [zC0, hns]
 split at hi
 ·rename_i hin
  have hle2 : (i - q) * e + e ≤ rows2.length * e := by rw [← vP]; exact uV e (by omega)
  have hsp : i * e = q * e + (i - q) * e := by rw [← vX]; congr 1; omega
  rw [if_pos (by omega)]
  have := hn.2.2 _ row j t hi hj
  rw [uY] at this
  have h6 : (news.toList[i * e + j - q * e]?).getD undef = Al news ((i - q) * e + j) := by
   rw [show i * e + j - q * e = (i - q) * e + j from by omega]
   unfold Al; simp
  rw [h6]
  exact this.mono hS fun _ h => h
 ·rename_i hin
  rw [if_neg]
  ·have := h5.2.2 _ row j t hi hj
   rw [uY] at this
   exact this.mono hS fun _ h => h
  ·rintro ⟨k1, k2⟩
   by_cases hiq : i < q
   ·have : i * e + e ≤ q * e := by rw [← vP]; exact uV e hiq
    omega
   ·have : q * e + rows2.length * e ≤ i * e := by rw [← vX]; exact uV e (by omega)
    omega
theorem NP {x : Operand} {t el s e l h b lo0 len : Nat} {lo hi : Option Operand} {rl rh : List (Operand × D)} {rows : List (List T)} {d : D} (hat : At st.env ops i X.n (.slice t x lo hi none) s gs)
  (hx : opd st.env x = some d) (hD : JI d b e rows lo0 len) (hb : st.bx b = some (.vec e rows)) (ht : sliceB P t el = true) (he : EI P el e = true) (hlo : LA lo 0 l rl) (hhi : LA hi len h rh) (h1 : Cw st.env rl) (h2 : Cw st.env rh) (hlh : l ≤ h) (hhl : lo0 + h ≤ rows.length)
  (next : AE P X ops dr Q r (i + 1) (A3.upd ⟨gs ++ ((x, d) :: (rl ++ rh)), [(b, .vec e rows)], some s, some (.e (.one (.view b e (lo0 + l) (h - l)))), [], []⟩ st) ((i, ⟨gs ++ ((x, d) :: (rl ++ rh)), [(b, .vec e rows)], some s, some (.e (.one (.view b e (lo0 + l) (h - l)))), [], []⟩) :: log)) : AE P X ops dr Q (r + 1) i st log := by
 obtain ⟨o, ho, hop, hd, hn, hg, hgp⟩ := hat.out
 refine AE.step next ⟨Af.2 ⟨hgp, hx, Af.2 ⟨h1, h2⟩⟩, ⟨hb, trivial⟩, trivial⟩ (LR.value ho hg rfl hd.symm (BG hd hn) ?_)
 intro G st a w hs hpre
 obtain ⟨hx, h12⟩ := (Af.1 hpre.r).2
 obtain ⟨h1, h2⟩ := Af.1 h12
 have hb := hpre.b.1
 -- the header of the whole
 obtain ⟨a0, cap, k1, k2, k3⟩ := LF (hs.blk b _ hb)
 have hv : ∃ p, a.eval x = .slice p len (cap - lo0) ∧ lo0 + len ≤ rows.length ∧ (lo0 < cap → p = a0.map fun q => q.add (lo0 * e)) := by
  have hR := hs.opd hx
  cases hD with
  | own =>
   obtain ⟨hR, _⟩ : CI P w G (a.eval x) (.own b) := hR
   exact ⟨a0, hR.trans k1, by omega, fun _ => by cases a0 <;> simp [MT]⟩
  | view _ _ _ _ _ h' =>
   obtain ⟨a1, n1, cap1, p, g1, g2, g3, g4⟩ : CI P w G (a.eval x) (.view b e lo0 len) := hR
   rw [k1] at g1; cases g1
   exact ⟨p, g3, h', g4⟩
 obtain ⟨p, hv1, hv2, hv3⟩ := hv
 refine ⟨.slice (if cap - lo0 = l then p else p.map (·.add (l * e))) (h - l) (cap - lo0 - l), w, G, ?_, hs, ?_⟩
 ·simp only [execOp, hop]
  refine Ab (a := .slice (if cap - lo0 = l then p else p.map (·.add (l * e))) (h - l) (cap - lo0 - l)) (w1 := w) ?_ rfl
  rw [hv1]
  exact GO (a := a) hs ht he hlo hhi h1 h2 hlh (by omega)
 ·rintro d' ⟨⟩
  refine ⟨⟨a0, rows.length, cap, _, k1, by omega, by rw [show cap - lo0 - l = cap - (lo0 + l) from by omega], fun hlt => ?_⟩, fun b' hb' => ?_⟩
  ·rw [if_neg (by omega), hv3 (by omega)]
   obtain ⟨β, arr, el', g1, _⟩ := k3 (by omega)
   subst g1
   simp only [zA1, Addr.add_mk, vX, uY]
  ·simp [D.names, E.names, C.names] at hb'
   subst hb'
   simp [AT, hb]
theorem Ng {t t2 el e : Nat} {w : World} {p p2 : Option Addr} {dl dc n2 c2 : Nat} {news : Array Value} {ty : TypeId} (ht : sliceB P t el = true) (he : EI P el e = true) (hnew : (Builtin.firstCells e (vT n2 dl) (.slice p2 n2 c2)).run P w = .ok news w) {w' : World}
  (hst : ∀ q, p = some q → (storeCells q news.toList).run P w = .ok () w') (hno : p = none → w' = w) : (Builtin.copy_ #[t, t2] ty #[.slice p dl dc, .slice p2 n2 c2]).run P w = .ok (goInt (vT n2 dl)) w' := by
 unfold sliceB at ht
 split at ht
 ·rename_i e' hu
  have : e' = el := by simpa using ht
  subst this
  unfold Builtin.copy_
  refine Ab (As hu w) ?_
  refine Ab (a := n2) (w1 := w) rfl ?_
  refine Ab (Cp he w) ?_
  refine Ab hnew ?_
  cases p with
  | none => rw [hno rfl]; rfl
  | some q => exact Ab (hst q rfl) rfl
 ·cases ht
theorem PJ {x y : Operand} {t t2 el s e b lo len : Nat} {d d2 : D} {rb2 : List (Nat × AO)} {rows rows2 rows' : List (List T)} (hat : At st.env ops i X.n (.call ⟨.builtin .copy, #[x, y], #[t, t2]⟩) s gs)
  (hx : opd st.env x = some d) (hD : JI d b e rows lo len) (hb : st.bx b = some (.vec e rows)) (hy : opd st.env y = some d2) (hS : K3 d2 rb2 e rows2) (hb2 : Ej st.bx rb2) (ht : sliceB P t el = true) (he : EI P el e = true) (hr : Kh rows lo (rows2.take (vT rows2.length len)) = rows')
  (next : AE P X ops dr Q r (i + 1) (A3.upd ⟨gs ++ [(x, d), (y, d2)], (b, .vec e rows) :: rb2, some s, some (vD (goInt (vT rows2.length len))), [(b, .vec e rows')], []⟩ st) ((i, ⟨gs ++ [(x, d), (y, d2)], (b, .vec e rows) :: rb2, some s, some (vD (goInt (vT rows2.length len))), [(b, .vec e rows')], []⟩) :: log)) : AE P X ops dr Q (r + 1) i st log := by
 obtain ⟨o, ho, hop, hd, hn, hg, hgp⟩ := hat.out
 refine AE.step next ⟨Af.2 ⟨hgp, hx, hy, trivial⟩, ⟨hb, hb2⟩, trivial⟩ (LR.value ho hg rfl hd.symm (BG hd hn) ?_)
 intro G st a w hs hpre
 obtain ⟨hx, hy, _⟩ := (Af.1 hpre.r).2
 obtain ⟨hb, hb2⟩ := hpre.b
 subst hr
 obtain ⟨p, cap', h1, h2, h3, h4⟩ := hs.dstV hx hD hb
 obtain ⟨p2, cap2, k1, k2⟩ := hs.srcW hy hS hb2
 have hmin : vT rows2.length len ≤ rows2.length := Nat.min_le_left _ _
 have hmin2 : vT rows2.length len ≤ len := Nat.min_le_right _ _
 obtain ⟨news, n1, n2, n3⟩ := Kz (P := P) (len := rows2.length) (cap := cap2) hmin k2
 have hl2 : (rows2.take (vT rows2.length len)).length = vT rows2.length len := by rw [List.length_take]; exact Nat.min_eq_left hmin
 have hrun : ∀ w', (∀ q, p = some q → (storeCells q news.toList).run P w = .ok () w') → (p = none → w' = w) → (execOp a.eval o).run P w = .ok (.value (goInt (vT rows2.length len))) w' := fun w' g1 g2 => by
  simp only [execOp, hop]
  refine EB fun cs => ?_
  simp only [zC8, vI, zE2, builtin, h1, k1]
  exact Ab (Ng ht he n1 g1 g2) rfl
 have fin : ∀ d', some (vD (goInt (vT rows2.length len))) = some d' → ∀ w' (G' : Gh), Ea P w' G' (goInt (vT rows2.length len)) d' ∧ ∀ c, c ∈ d'.names → (AT st.bx [(b, .vec e (Kh rows lo (rows2.take (vT rows2.length len))))] c).isSome = true := fun d' hd' w' G' => by
  cases hd'; exact ⟨.val _ rfl, fun c hc => by cases hc⟩
 by_cases hlt : lo < rows.length
 ·obtain ⟨β, cap, arr, el', g1, g2, g3, g4, g5, g6, g7⟩ := h4 hlt
  subst g4
  have hat := hs.at_ok b _ β hb rfl (.inl g1)
  have hle : lo * e + vT rows2.length len * e ≤ arr.size := by rw [g6, ← vX]; exact uV e (by omega)
  have hst := DV (P := P) (β := β) (el := el') news.toList w (lo * e) 0 arr g5 (by simp [n3]; omega) (B7.ones n2 (by rw [n3, hl2]))
  rw [Nat.add_zero] at hst
  refine ⟨_, _, G, hrun _ (fun q hq => by cases hq; exact hst) (fun h => by cases h), ?_, fun d' hd' => fin d' hd' _ _⟩
  exact hs.setB (b := b) (k0 := .vec e rows) hb rfl rfl (.inl g1) (NS hat.2.1 hat.2.2 g1 g2 g3 g6 g7 n2 (by rw [n3, hl2]) (by rw [hl2]; omega)) (fun c hc => by cases hc)
 ·have hz : vT rows2.length len = 0 := by omega
  have hn0 : news.toList = [] := zB9 (by simp [n3, hz])
  have hsp : Kh rows lo (rows2.take (vT rows2.length len)) = rows := by
   have : lo = rows.length := by omega
   rw [hz]; unfold Kh; simp [this]
  refine ⟨_, w, G, hrun w (fun q _ => by rw [hn0]; rfl) (fun _ => rfl), ?_, fun d' hd' => fin d' hd' _ _⟩
  have : (⟨st.env, AT st.bx [(b, .vec e (Kh rows lo (rows2.take (vT rows2.length len))))]⟩ : St) = st := by
   refine St.ext (fun _ => rfl) fun c => ?_
   simp only [AT]
   split
   ·rename_i e1; rw [e1, hsp, hb]
   ·rfl
  rw [this]; exact hs
end run
end Go.Lift
namespace Go.Lift
open Go.RowKit
variable {P : Program} {X : EC} {ops : Array Oper}
def OY (a b : Int) : Int := if b < a then b else a
def ON (b : ByteArray) (i : Int) : Option Int := if 0 ≤ i then (b[i.toNat]?).map fun x => (x.toNat : Int) else none
theorem MC {β : Type} {b : ByteArray} {i : Int} {f : Int → Option β} {r : β} (h : (ON b i).bind f = some r) : ∃ x : UInt8, 0 ≤ i ∧ b[i.toNat]? = some x ∧ f (x.toNat : Int) = some r := by
 obtain ⟨x, h1, h2⟩ := bind_some h
 unfold ON at h1
 split at h1
 ·rename_i h0
  cases hx : b[i.toNat]? with
  | none => rw [hx] at h1; cases h1
  | some y => rw [hx] at h1; cases h1; exact ⟨y, h0, rfl, h2⟩
 ·cases h1
section run
variable {dr : Bool} {Q : St → Prop} {r i : Nat} {st : St} {log : List (Nat × A3)} {o : Oper} {gs : List (Operand × D)}
theorem QO {x y : Operand} {t t2 s : Nat} {k k2 : IntKind} {a0 b0 : Int} (hat : At st.env ops i X.n (.call ⟨.builtin .min, #[x, y], #[t, t2]⟩) s gs)
  (hx : opd st.env x = some (vD (.int k a0))) (hy : opd st.env y = some (vD (.int k2 b0)))
  (next : AE P X ops dr Q r (i + 1) (A3.upd ⟨gs ++ [(x, vD (.int k a0)), (y, vD (.int k2 b0))], [], some s, some (vD (.int k (OY a0 b0))), [], []⟩ st) ((i, ⟨gs ++ [(x, vD (.int k a0)), (y, vD (.int k2 b0))], [], some s, some (vD (.int k (OY a0 b0))), [], []⟩) :: log)) : AE P X ops dr Q (r + 1) i st log := by
 obtain ⟨o, ho, hop, hd, hn, hg, hgp⟩ := hat.out
 refine AE.step next ⟨Af.2 ⟨hgp, hx, hy, trivial⟩, trivial, trivial⟩ (LR.value ho hg rfl hd.symm (BG hd hn) ?_)
 intro G st a w hs hpre
 obtain ⟨hx, hy, _⟩ := (Af.1 hpre.r).2
 have h1 : a.eval x = .int k a0 := BB (hs.opd hx : Bo w G.S (a.eval x) (.val _))
 have h2 : a.eval y = .int k2 b0 := BB (hs.opd hy : Bo w G.S (a.eval y) (.val _))
 refine ⟨.int k (OY a0 b0), w, G, ?_, hs, ?_⟩
 ·simp only [execOp, hop]
  refine EB fun cs => ?_
  simp only [zC8, vI, zE2, builtin, h1, h2]
  rfl
 ·rintro d ⟨⟩
  exact ⟨.val _ rfl, fun b hb => by cases hb⟩
theorem LT {x : Operand} {s b k : Nat} (hat : At st.env ops i X.n (.nilCheck x) s gs) (hx : opd st.env x = some (.e (.one (.ptr b k))))
  (next : AE P X ops dr Q r (i + 1) (A3.upd ⟨gs ++ [(x, .e (.one (.ptr b k)))], [], some s, some (.e (.one (.ptr b k))), [], []⟩ st) ((i, ⟨gs ++ [(x, .e (.one (.ptr b k)))], [], some s, some (.e (.one (.ptr b k))), [], []⟩) :: log)) : AE P X ops dr Q (r + 1) i st log := by
 obtain ⟨o, ho, hop, hd, hn, hg, hgp⟩ := hat.out
 refine AE.step next ⟨Af.2 ⟨hgp, hx, trivial⟩, trivial, trivial⟩ (LR.value ho hg rfl hd.symm (BG hd hn) ?_)
 intro G st a w hs hpre
 obtain ⟨hx, _⟩ := (Af.1 hpre.r).2
 obtain ⟨β, hβ, hv⟩ : CI P w G (a.eval x) (.ptr b k) := hs.opd hx
 refine ⟨.pointer (some ⟨β, k, none⟩), w, G, ?_, hs, ?_⟩
 ·simp only [execOp, hop, hv]; rfl
 ·rintro d ⟨⟩
  exact ⟨⟨β, hβ, rfl⟩, fun b' hb' => hs.opd_live hx b' hb'⟩
def HP (P : Program) (t : TypeId) : Bool := match P.underlying t with | some .string => true | _ => false
theorem Nc {x y : Operand} {t s : Nat} {b : ByteArray} {k : IntKind} {n : Int} {c : UInt8} (hat : At st.env ops i X.n (.index t x y) s gs)
  (hx : opd st.env x = some (vD (.string b))) (hy : opd st.env y = some (vD (.int k n))) (ht : HP P t = true) (h0 : 0 ≤ n) (hc : b[n.toNat]? = some c)
  (next : AE P X ops dr Q r (i + 1) (A3.upd ⟨gs ++ [(x, vD (.string b)), (y, vD (.int k n))], [], some s, some (vD (.int .u8 (c.toNat : Int))), [], []⟩ st) ((i, ⟨gs ++ [(x, vD (.string b)), (y, vD (.int k n))], [], some s, some (vD (.int .u8 (c.toNat : Int))), [], []⟩) :: log)) : AE P X ops dr Q (r + 1) i st log := by
 obtain ⟨o, ho, hop, hd, hn, hg, hgp⟩ := hat.out
 refine AE.step next ⟨Af.2 ⟨hgp, hx, hy, trivial⟩, trivial, trivial⟩ (LR.value ho hg rfl hd.symm (BG hd hn) ?_)
 intro G st a w hs hpre
 obtain ⟨hx, hy, _⟩ := (Af.1 hpre.r).2
 have h1 : a.eval x = .string b := BB (hs.opd hx : Bo w G.S (a.eval x) (.val _))
 have h2 : a.eval y = .int k n := BB (hs.opd hy : Bo w G.S (a.eval y) (.val _))
 refine ⟨.int .u8 (c.toNat : Int), w, G, ?_, hs, ?_⟩
 ·simp only [execOp, hop, h1, h2]
  refine Ab (a := .int .u8 (c.toNat : Int)) (w1 := w) ?_ rfl
  unfold HP at ht
  split at ht
  ·rename_i hu
   unfold Instr.index
   refine Ab (a := (k, n)) (w1 := w) rfl ?_
   refine Ab (As hu w) ?_
   simp only [h0, if_true, hc]
   rfl
  ·cases ht
 ·rintro d ⟨⟩
  exact ⟨.val _ rfl, fun b hb => by cases hb⟩
end run
section maps
variable {K V : Type}
def Gs [BEq K] (k : K) : List (K × V) → Option V
 | [] => none
 | p :: r => if k == p.1 then some p.2 else Gs k r
def Iw [BEq K] (k : K) (v : V) : List (K × V) → List (K × V)
 | [] => [(k, v)]
 | p :: r => if k == p.1 then (k, v) :: r else p :: Iw k v r
def Cv (kv : K → Value) (vt : V → T) (m : List (K × V)) : List (Value × T) := m.map fun p => (kv p.1, vt p.2)
end maps
structure K7 {K : Type} [BEq K] (P : Program) (t : TypeId) (kv : K → Value) : Prop where
 ty : ∃ kt el kd, P.underlying t = some (.map kt el) ∧ P.underlying kt = some kd ∧ (∀ a b : K, Instr.sameNow kd (kv a) (kv b) = some (a == b)) ∧ (∀ (e : Bool) (n : Nat) (v : K) (w : World), (Instr.checkKey e (n + 1) kt (kv v)).run P w = .ok () w)
 same : ∀ a b : K, (a == b) = true → Instr.sameBits 10000 (kv b) (kv a) = true
theorem GA {K V : Type} [BEq K] {kd : TypeDesc} {kv : K → Value} (h : ∀ a b : K, Instr.sameNow kd (kv a) (kv b) = some (a == b)) (k : K) : ∀ (m : List (K × V)) (es : List MapEntry) (i : Nat), es.length = m.length → (∀ (j : Nat) (p : K × V), m[j]? = some p → ∃ e : MapEntry, es[j]? = some e ∧ e.key = kv p.1) →
  (Gs k m = none ∧ Instr.findNow kd (kv k) es i = some none) ∨ ∃ j p e, m[j]? = some p ∧ es[j]? = some e ∧ (k == p.1) = true ∧ Gs k m = some p.2 ∧ Instr.findNow kd (kv k) es i = some (some (i + j, e.val)) ∧ (∀ v, Iw k v m = m.set j (k, v))
 | [], [], i, _, _ => .inl ⟨rfl, rfl⟩
 | p :: m, e :: es, i, hl, hp => by
  obtain ⟨e0, h0, h1⟩ := hp 0 p rfl
  simp at h0; subst h0
  have h2 := h k p.1
  by_cases hk : (k == p.1) = true
  ·refine .inr ⟨0, p, e, rfl, rfl, hk, ?_, ?_, fun v => ?_⟩
   ·simp only [Gs, hk, if_true]
   ·simp only [Instr.findNow, h1, h2, hk]; rfl
   ·simp only [Iw, hk, if_true]; rfl
  ·have hk' : (k == p.1) = false := by simpa using hk
   rcases GA h k m es (i + 1) (by simpa using hl) (fun j q hq => hp (j + 1) q (by simpa using hq)) with ⟨g1, g2⟩ | ⟨j, q, e', g1, g2, g3, g4, g5, g6⟩
   ·refine .inl ⟨?_, ?_⟩
    ·simp only [Gs, hk']; exact g1
    ·simp only [Instr.findNow, h1, h2, hk']; exact g2
   ·refine .inr ⟨j + 1, q, e', by simpa using g1, by simpa using g2, g3, ?_, ?_, fun v => ?_⟩
    ·simp only [Gs, hk']; exact g4
    ·simp only [Instr.findNow, h1, h2, hk']; rw [g5]; simp [zA9, Nat.add_comm 1]
    ·simp only [Iw, hk']; rw [g6 v]; rfl
theorem Ic {K V : Type} [BEq K] (k : K) (v : V) : ∀ {m : List (K × V)}, Gs k m = none → Iw k v m = m ++ [(k, v)]
 | [], _ => rfl
 | p :: m, h => by
  simp only [Gs] at h
  split at h
  ·cases h
  ·rename_i hk
   simp only [Iw]; rw [if_neg hk, Ic k v h]; rfl
section run
variable {dr : Bool} {Q : St → Prop} {r i : Nat} {st : St} {log : List (Nat × A3)} {o : Oper} {gs : List (Operand × D)}
theorem MF {t s : Nat} (hat : At st.env ops i X.n (.makeMap t none) s gs) (hnew : st.bx s = none)
  (next : AE P X ops dr Q r (i + 1) (A3.upd ⟨gs, [], some s, some (.e (.one (.mref s))), [(s, .mp [])], [s]⟩ st) ((i, ⟨gs, [], some s, some (.e (.one (.mref s))), [(s, .mp [])], [s]⟩) :: log)) : AE P X ops dr Q (r + 1) i st log := by
 obtain ⟨o, ho, hop, hd, hn, hg, hgp⟩ := hat.out
 refine AE.step next ⟨hgp, trivial, hnew, trivial⟩ (LR.value (rs := []) ho hg (by simp) hd.symm (BG hd hn) ?_)
 intro G st a w hs hpre
 have hnew := hpre.n.1
 have key := hs.newB (.map #[] 0) s (.mp []) undef (hs.nl hn) hnew
  ⟨w.heap.size, #[], 0, by simp [Gh.set], by rw [B8, if_pos rfl], rfl, fun i x h => by simp at h⟩ (fun c hc => by cases hc)
 refine ⟨.map (some w.heap.size), _, _, ?_, key, ?_⟩
 ·simp only [execOp, hop]
  exact Ab (a := .map (some w.heap.size)) (w1 := w.alloc (.map #[] 0)) rfl rfl
 ·rintro d ⟨⟩
  refine ⟨⟨w.heap.size, by simp [Gh.set], rfl⟩, fun b hb => ?_⟩
  simp [D.names, E.names, C.names] at hb
  subst hb; simp [AT]
theorem Br.mpAt {G : Gh} {a : Act} {w : World} (hs : Br P X G st a w) {x : Operand} {b : Nat} {es : List (Value × T)} (hx : Lift.opd st.env x = some (.e (.one (.mref b)))) (hb : st.bx b = some (.mp es)) :
  ∃ β arr clock, a.eval x = .map (some β) ∧ G.loc b = some β ∧ w.heap[β]? = some (.map arr clock) ∧ arr.size = es.length ∧ ∀ (i : Nat) (y : Value × T), es[i]? = some y → ∃ m : MapEntry, arr[i]? = some m ∧ m.key = y.1 ∧ Bo w G.S m.val y.2 := by
 obtain ⟨β, hβ, hv⟩ : CI P w G (a.eval x) (.mref b) := hs.opd hx
 obtain ⟨β', arr, clock, h1, h2, h3, h4⟩ := hs.blk b _ hb
 rw [hβ] at h1; cases h1
 exact ⟨β, arr, clock, hv, hβ, h2, h3, h4⟩
theorem F9 {β : Nat} {arr : Array MapEntry} {clock : Nat} {w : World} (h : w.heap[β]? = some (.map arr clock)) : (getObj β).run P w = .ok (.map arr clock) w := by
 simp [getObj, Sem.run, h]
theorem Jg {β : Nat} {arr : Array MapEntry} {clock : Nat} {o : Obj} {w : World} (h : w.heap[β]? = some (.map arr clock)) : (setObj β o).run P w = .ok () (DL w β o) := by
 simp [setObj, Sem.run, h, DL]
theorem Ft {K _V : Type} [BEq K] {kt : TypeId} {kd : TypeDesc} {kv : K → Value} {k : K} {es : List MapEntry} {r : Option (Nat × Value)} {w : World} (hu : P.underlying kt = some kd) (h : Instr.findNow kd (kv k) es 0 = some r) : (Instr.findKey kt (kv k) es).run P w = .ok r w := by
 unfold Instr.findKey
 refine Ab (As hu w) ?_
 rw [h]; rfl
inductive L5 (w : World) : Value → Array MapEntry → Prop where
 | nil : L5 w (.map none) #[]
 | here (β clock : Nat) (arr : Array MapEntry) (h : w.heap[β]? = some (.map arr clock)) : L5 w (.map (some β)) arr
theorem LX {K V : Type} [BEq K] {t el : Nat} {c : Bool} {z x : Value} {kv : K → Value} {vt : V → T} {m : List (K × V)} {k : K} {dv v0 : V} {w : World} {S : Nat → Prop} {arr : Array MapEntry} (h3 : L5 w x arr) (h4 : arr.size = (Cv kv vt m).length)
  (h5 : ∀ (i : Nat) (y : Value × T), (Cv kv vt m)[i]? = some y → ∃ e : MapEntry, arr[i]? = some e ∧ e.key = y.1 ∧ Bo w S e.val y.2)
  (hk : K7 P t kv) (hel : (match P.underlying t with | some (.map _ e) => e == el | _ => false) = true) (hz : B3 P el = some z) (hzv : vt dv = .val z) (hz1 : DP z = true) (hv0 : (Gs k m).getD dv = v0) :
  ∃ v, (Instr.lookup t x (kv k) c).run P w = .ok (if c then .tuple #[v, .bool (Gs k m).isSome] else v) w ∧ Bo w S v (vt v0) := by
 obtain ⟨kt, el', kd, u1, u2, u3, u4⟩ := hk.ty
 rw [u1] at hel
 have hel' : el' = el := by simpa using hel
 subst hel'
 have hes : ∀ (j : Nat) (p : K × V), m[j]? = some p → ∃ e : MapEntry, arr.toList[j]? = some e ∧ e.key = kv p.1 ∧ Bo w S e.val (vt p.2) := fun j p hp => by
  obtain ⟨e, e1, e2, e3⟩ := h5 j (kv p.1, vt p.2) (by unfold Cv; rw [uX, hp]; rfl)
  exact ⟨e, by simpa using e1, e2, e3⟩
 rcases GA (V := V) u3 k m arr.toList 0 (by simp [h4, Cv]) (fun j p hp => by obtain ⟨e, e1, e2, _⟩ := hes j p hp; exact ⟨e, e1, e2⟩) with ⟨g1, g2⟩ | ⟨j, q, e, g1, g2, g3, g4, g5, _⟩
 ·refine ⟨z, ?_, ?_⟩
  ·rw [g1]
   unfold Instr.lookup
   refine Ab (As u1 w) ?_
   cases h3
   case' here h3 => refine Ab (F9 h3) ?_
   all_goals refine Ab (a := _) (w1 := w) rfl ?_
   all_goals refine Ab (u4 _ _ _ _) ?_
   all_goals refine Ab (Ft (_V := V) u2 g2) ?_
   all_goals refine Ab (Dm hz w) ?_
   all_goals exact Ab (a := (z, false)) (w1 := w) rfl rfl
  ·rw [← hv0, g1, Option.getD_none, hzv]; exact .val _ hz1
 ·refine ⟨e.val, ?_, ?_⟩
  ·rw [g4]
   unfold Instr.lookup
   refine Ab (As u1 w) ?_
   cases h3 with
   | nil => cases g2
   | here β clock _ h3 =>
    refine Ab (F9 h3) ?_
    refine Ab (a := arr) (w1 := w) rfl ?_
    refine Ab (u4 _ _ _ _) ?_
    refine Ab (Ft (_V := V) u2 g5) ?_
    exact Ab (a := (e.val, true)) (w1 := w) rfl rfl
  ·obtain ⟨e', e1, _, e3⟩ := hes j q g1
   rw [g2] at e1; cases e1
   rw [← hv0, g4]; exact e3
inductive RS : D → List (Value × T) → List (Nat × AO) → Prop where
 | ref (b : Nat) (es : List (Value × T)) : RS (.e (.one (.mref b))) es [(b, .mp es)]
 | tree (es : List (Value × T)) : RS (one (.mp es)) es []
theorem Br.mpAtD {G : Gh} {a : Act} {w : World} (hs : Br P X G st a w) {x : Operand} {d : D} {es : List (Value × T)} {bs : List (Nat × AO)} (hm : RS d es bs) (hx : Lift.opd st.env x = some d) (hb : Ej st.bx bs) :
  ∃ arr, L5 w (a.eval x) arr ∧ arr.size = es.length ∧ ∀ (i : Nat) (y : Value × T), es[i]? = some y → ∃ m : MapEntry, arr[i]? = some m ∧ m.key = y.1 ∧ Bo w G.S m.val y.2 := by
 cases hm with
 | ref b =>
  obtain ⟨β, arr, clock, h1, h2, h3, h4, h5⟩ := hs.mpAt hx hb.1
  exact ⟨arr, by rw [h1]; exact .here β clock arr h3, h4, h5⟩
 | tree =>
  have h : Bo w G.S (a.eval x) (.mp es) := hs.opd hx
  generalize a.eval x = v at h
  cases h with
  | mp β clock arr _ h1 h2 h3 h4 h5 =>
   refine ⟨arr, .here β clock arr h2, h3, fun i y hy => ?_⟩
   have hlt : i < arr.size := by rw [h3]; exact Ar hy
   exact ⟨arr[i], by simp [hlt], h4 i y _ hy (by simp [hlt]), h5 i y _ hy (by simp [hlt])⟩
  | mp0 => exact ⟨#[], .nil, rfl, fun i y hy => by simp at hy⟩
theorem ML {K V : Type} [BEq K] {t s el : Nat} {x y : Operand} {c : Bool} {z : Value} {kv : K → Value} {vt : V → T} {m : List (K × V)} {k : K} {dv v0 : V} {dx : D} {bs : List (Nat × AO)} (hmd : RS dx (Cv kv vt m) bs) (hat : At st.env ops i X.n (.lookup t x y c) s gs)
  (hx : opd st.env x = some dx) (hy : opd st.env y = some (vD (kv k))) (hb : Ej st.bx bs) (hk : K7 P t kv) (hel : (match P.underlying t with | some (.map _ e) => e == el | _ => false) = true) (hz : B3 P el = some z) (hzv : vt dv = .val z) (hz1 : DP z = true) (hv0 : (Gs k m).getD dv = v0)
  (next : AE P X ops dr Q r (i + 1) (A3.upd ⟨gs ++ [(x, dx), (y, vD (kv k))], bs, some s, some (if c then .tup [.one (.pure (vt v0)), .one (.pure (.val (.bool (Gs k m).isSome)))] else one (vt v0)), [], []⟩ st) ((i, ⟨gs ++ [(x, dx), (y, vD (kv k))], bs, some s, some (if c then .tup [.one (.pure (vt v0)), .one (.pure (.val (.bool (Gs k m).isSome)))] else one (vt v0)), [], []⟩) :: log)) : AE P X ops dr Q (r + 1) i st log := by
 obtain ⟨o, ho, hop, hd, hn, hg, hgp⟩ := hat.out
 refine AE.step next ⟨Af.2 ⟨hgp, hx, hy, trivial⟩, hb, trivial⟩ (LR.value ho hg rfl hd.symm (BG hd hn) ?_)
 intro G st a w hs hpre
 obtain ⟨hx, hy, _⟩ := (Af.1 hpre.r).2
 obtain ⟨arr, h3, h4, h5⟩ := hs.mpAtD hmd hx hpre.b
 have hY : a.eval y = kv k := BB (hs.opd hy : Bo w G.S (a.eval y) (.val _))
 obtain ⟨v, hv1, hv2⟩ := LX (c := c) h3 h4 h5 hk hel hz hzv hz1 hv0
 refine ⟨(if c then .tuple #[v, .bool (Gs k m).isSome] else v), w, G, ?_, hs, ?_⟩
 ·simp only [execOp, hop, hY]
  exact Ab hv1 rfl
 ·rintro d hd'
  cases c with
  | false => cases hd'; exact ⟨hv2, fun b hb => by cases hb⟩
  | true =>
   cases hd'
   refine ⟨⟨_, rfl, rfl, fun j x hj => ?_⟩, fun b hb => by simp [D.names, FB, E.names, C.names] at hb⟩
   match j, hj with
   | 0, hj => cases hj; exact hv2
   | 1, hj => cases hj; exact .val _ rfl
theorem M4 {K V : Type} [BEq K] {t s b el : Nat} {x y : Operand} {c : Bool} {z : Value} {kv : K → Value} {vt : V → T} {m : List (K × V)} {k : K} {dv v0 : V} (hat : At st.env ops i X.n (.lookup t x y c) s gs)
  (hx : opd st.env x = some (.e (.one (.mref b)))) (hy : opd st.env y = some (vD (kv k))) (hb : st.bx b = some (.mp (Cv kv vt m))) (hk : K7 P t kv) (hel : (match P.underlying t with | some (.map _ e) => e == el | _ => false) = true) (hz : B3 P el = some z) (hzv : vt dv = .val z) (hz1 : DP z = true) (hv0 : (Gs k m).getD dv = v0)
  (next : AE P X ops dr Q r (i + 1) (A3.upd ⟨gs ++ [(x, .e (.one (.mref b))), (y, vD (kv k))], [(b, .mp (Cv kv vt m))], some s, some (if c then .tup [.one (.pure (vt v0)), .one (.pure (.val (.bool (Gs k m).isSome)))] else one (vt v0)), [], []⟩ st) ((i, ⟨gs ++ [(x, .e (.one (.mref b))), (y, vD (kv k))], [(b, .mp (Cv kv vt m))], some s, some (if c then .tup [.one (.pure (vt v0)), .one (.pure (.val (.bool (Gs k m).isSome)))] else one (vt v0)), [], []⟩) :: log)) : AE P X ops dr Q (r + 1) i st log :=
 ML (.ref b _) hat hx hy ⟨hb, trivial⟩ hk hel hz hzv hz1 hv0 next
theorem M2 {K V : Type} [BEq K] {t b : Nat} {x y u : Operand} {kv : K → Value} {vt : V → T} {m m' : List (K × V)} {k : K} {v : V} {op : Op} (hat : MX ops i = some op) (hop' : op = .mapUpdate t x y u ∨ op = .insert t x y u)
  (hx : opd st.env x = some (.e (.one (.mref b)))) (hy : opd st.env y = some (vD (kv k))) (hu : opd st.env u = some (one (vt v))) (hb : st.bx b = some (.mp (Cv kv vt m))) (hk : K7 P t kv) (hm : Iw k v m = m')
  (next : AE P X ops dr Q r (i + 1) (A3.upd ⟨[(x, .e (.one (.mref b))), (y, vD (kv k)), (u, one (vt v))], [(b, .mp (Cv kv vt m))], none, none, [(b, .mp (Cv kv vt m'))], []⟩ st) ((i, ⟨[(x, .e (.one (.mref b))), (y, vD (kv k)), (u, one (vt v))], [(b, .mp (Cv kv vt m))], none, none, [(b, .mp (Cv kv vt m'))], []⟩) :: log)) : AE P X ops dr Q (r + 1) i st log := by
 obtain ⟨o, ho, hop, hd, hgn⟩ := KC hat
 have hg : N7 ops o [] := .none hgn
 refine AE.step next ⟨⟨hx, hy, hu, trivial⟩, ⟨hb, trivial⟩, trivial⟩ (LR.skip (rs := [(x, .e (.one (.mref b))), (y, vD (kv k)), (u, one (vt v))]) ho hg rfl hd rfl ?_)
 intro G st a w hs hpre
 obtain ⟨hx, hy, hu, _⟩ := hpre.r
 have hb := hpre.b.1
 subst hm
 obtain ⟨β, arr, clock, h1, h2, h3, h4, h5⟩ := hs.mpAt hx hb
 have hY : a.eval y = kv k := BB (hs.opd hy : Bo w G.S (a.eval y) (.val _))
 have hU : Bo w G.S (a.eval u) (vt v) := hs.opd hu
 obtain ⟨kt, el', kd, u1, u2, u3, u4⟩ := hk.ty
 have hes : ∀ (j : Nat) (p : K × V), m[j]? = some p → ∃ e : MapEntry, arr.toList[j]? = some e ∧ e.key = kv p.1 ∧ Bo w G.S e.val (vt p.2) := fun j p hp => by
  obtain ⟨e, e1, e2, e3⟩ := h5 j (kv p.1, vt p.2) (by unfold Cv; rw [uX, hp]; rfl)
  exact ⟨e, by simpa using e1, e2, e3⟩
 have hat := hs.at_ok b _ β hb rfl (.inl h2)
 have hml : arr.size = m.length := by rw [h4]; simp [Cv]
 have fin : ∀ arr' clock', arr'.size = (Iw k v m).length → (∀ (j : Nat) (p : K × V), (Iw k v m)[j]? = some p → ∃ e : MapEntry, arr'[j]? = some e ∧ e.key = kv p.1 ∧ Bo w G.S e.val (vt p.2)) →
   Br P X G ⟨st.env, AT st.bx [(b, .mp (Cv kv vt (Iw k v m)))]⟩ a (DL w β (.map arr' clock')) := by
  intro arr' clock' k1 k2
  have hS : ∀ γ, G.S γ → (DL w β (.map arr' clock')).heap[γ]? = w.heap[γ]? := fun γ hγ => by
   rw [Ck, if_neg (fun (h : γ = β ∧ β < w.heap.size) => hat.2.2 (h.1 ▸ hγ))]
  refine hs.setB (b := b) (k0 := .mp (Cv kv vt m)) hb rfl rfl (.inl h2) ⟨β, arr', clock', h2, by rw [Ck, if_pos ⟨rfl, hat.2.1⟩], by rw [k1]; simp [Cv], fun j y hy => ?_⟩ (fun c hc => by cases hc)
  unfold Cv at hy
  rw [uX] at hy
  cases hp : (Iw k v m)[j]? with
  | none => rw [hp] at hy; cases hy
  | some p =>
   rw [hp] at hy; cases hy
   obtain ⟨e, e1, e2, e3⟩ := k2 j p hp
   exact ⟨e, e1, e2, e3.mono hS fun _ h => h⟩
 have hrun : ∀ w', (Instr.mapUpdate t (.map (some β)) (kv k) (a.eval u)).run P w = .ok () w' → (execOp a.eval o).run P w = .ok .skip w' := fun w' h => by
  rcases hop' with e | e
  ·simp only [execOp, hop, e, h1, hY]; exact Ab h rfl
  ·simp only [execOp, hop, e, h1, hY]; exact Ab h rfl
 rcases GA (V := V) u3 k m arr.toList 0 (by simp [hml]) (fun j p hp => by obtain ⟨e, e1, e2, _⟩ := hes j p hp; exact ⟨e, e1, e2⟩) with ⟨g1, g2⟩ | ⟨j, q, e, g1, g2, g3, g4, g5, g6⟩
 ·refine ⟨_, G, hrun _ ?_, fin (arr.push { key := kv k, val := a.eval u, born := clock }) (clock + 1) ?_ ?_⟩
  ·unfold Instr.mapUpdate
   refine Ab (As u1 w) ?_
   refine Ab (F9 h3) ?_
   refine Ab (u4 _ _ _ _) ?_
   refine Ab (Ft (_V := V) u2 g2) ?_
   exact Jg h3
  ·rw [Ic k v g1]; simp [hml]
  ·intro j p hp
   rw [Ic k v g1] at hp
   by_cases hj : j < m.length
   ·rw [vO hj] at hp
    obtain ⟨e, e1, e2, e3⟩ := hes j p hp
    refine ⟨e, ?_, e2, e3⟩
    rw [Array.getElem?_push, if_neg (by omega)]
    simpa using e1
   ·rw [vM (by omega)] at hp
    have hj0 : j - m.length = 0 := by have := Ar hp; simp at this; omega
    rw [hj0] at hp; cases hp
    exact ⟨{ key := kv k, val := a.eval u, born := clock }, by rw [Array.getElem?_push, if_pos (by omega)], rfl, hU⟩
 ·have hjm := Ar g1
  have hje : arr[j]? = some e := by simpa using g2
  have hek : e.key = kv q.1 := by obtain ⟨e', e1, e2, _⟩ := hes j q g1; rw [g2] at e1; cases e1; exact e2
  refine ⟨_, G, hrun _ ?_, fin (arr.modify j fun e => { e with key := kv k, val := a.eval u }) clock ?_ ?_⟩
  ·unfold Instr.mapUpdate
   refine Ab (As u1 w) ?_
   refine Ab (F9 h3) ?_
   refine Ab (u4 _ _ _ _) ?_
   refine Ab (Ft (_V := V) u2 g5) ?_
   simp only [uY]
   refine Ab (a := kv k) (w1 := w) ?_ (Jg h3)
   rw [hje]
   simp only [zA1, vY]
   unfold Instr.keyThatStays
   rw [hek, hk.same k q.1 g3]; rfl
  ·rw [g6 v]; simp [hml]
  ·intro j' p hp
   rw [g6 v] at hp
   rw [Array.getElem?_modify]
   rcases IB hp with ⟨rfl, rfl⟩ | ⟨hne, hp⟩
   ·rw [if_pos rfl, hje]
    exact ⟨_, rfl, rfl, hU⟩
   ·rw [if_neg (fun h => hne h.symm)]
    obtain ⟨e', e1, e2, e3⟩ := hes j' p hp
    exact ⟨e', by simpa using e1, e2, e3⟩
end run
end Go.Lift
namespace Go.Lift
open Go.RowKit
variable {P : Program} {X : EC} {ops : Array Oper}
section run
variable {dr : Bool} {Q : St → Prop} {r i : Nat} {st : St} {log : List (Nat × A3)} {o : Oper} {gs : List (Operand × D)}
def Sw : Ow → Bool
 | .s => true
 | _ => false
end run
def ND (e : Nat) (cols : List Ow) (rows : List (List T)) : AO := if cols.all Sw then .vec e rows else .dvec e cols rows
section run
variable {dr : Bool} {Q : St → Prop} {r i : Nat} {st : St} {log : List (Nat × A3)} {o : Oper} {gs : List (Operand × D)}
end run
end Go.Lift
namespace Go.Lift
open Go.RowKit
variable {P : Program} {X : EC} {ops : Array Oper}
section run
variable {dr : Bool} {Q : St → Prop} {r i : Nat} {st : St} {log : List (Nat × A3)} {o : Oper} {gs : List (Operand × D)}
structure Ps (w : World) (S : Nat → Prop) (e : Nat) (cols : List Ow) (rows : List (List T)) (Rf : Nat → Nat → Nat → Prop) (f : Nat → Value) : Prop where
 len : ∀ (i : Nat) (row : List T), rows[i]? = some row → row.length = e
 cell : ∀ (i : Nat) (row : List T) (j : Nat) (t : T), rows[i]? = some row → row[j]? = some t → LY w S (cols.getD j .s) (Rf i j) (f (i * e + j)) t
 dis : ∀ i j i' j' γ, Rf i j γ → Rf i' j' γ → i = i' ∧ j = j'
theorem Ps.ones {w : World} {S : Nat → Prop} {e : Nat} {cols : List Ow} {rows : List (List T)} {Rf : Nat → Nat → Nat → Prop} {arr : Array Value} (h : Ps w S e cols rows Rf (Al arr)) (hs : arr.size = rows.length * e) : ∀ u, u ∈ arr.toList → DP u = true := by
 intro u hu
 obtain ⟨k, hk⟩ := vF.1 hu
 have hk' : arr[k]? = some u := by simpa using hk
 have hlt : k < arr.size := by
  rcases vJ k arr.size with h' | h'
  ·exact h'
  ·rw [vN h'] at hk'; cases hk'
 rcases Nat.eq_zero_or_pos e with e0 | e0
 ·rw [e0, Nat.mul_zero] at hs; omega
 have h1 : k / e < rows.length := (Nat.div_lt_iff_lt_mul e0).2 (by omega)
 have h2 : k % e < e := Nat.mod_lt _ e0
 have hrow : rows[k / e]? = some rows[k / e] := by simp [h1]
 have hlen := h.len _ _ hrow
 have hcell : (rows[k / e])[k % e]? = some ((rows[k / e])[k % e]'(by omega)) := by simp [show k % e < rows[k / e].length from by omega]
 have := (h.cell _ _ _ _ hrow hcell).one
 rw [show k / e * e + k % e = k from by rw [Nat.mul_comm]; exact Nat.div_add_mod k e] at this
 simpa [Al, hk'] using this
end run
end Go.Lift
namespace Go.Lift
open Go.RowKit
variable {P : Program} {X : EC} {ops : Array Oper}
theorem Jj {α : Type} (f : α → List T) (b e : Nat) (xs : List α) : JI (.e (.one (.own b))) b e (xs.map f) 0 xs.length := by
 have := JI.own b e (xs.map f)
 rwa [vG] at this
theorem MM {α : Type} (f : α → List T) (b e lo len : Nat) (xs : List α) (h : lo + len ≤ xs.length) : JI (.e (.one (.view b e lo len))) b e (xs.map f) lo len := .view b e _ lo len (by simpa using h)
theorem MG {α : Type} (f : α → List T) (b e lo len : Nat) (xs : List α) (h : lo + len ≤ xs.length) : K3 (.e (.one (.view b e lo len))) [(b, .vec e (xs.map f))] e (((xs.drop lo).take len).map f) := by
 have := K3.view b e (xs.map f) lo len (by simpa using h)
 rwa [← List.map_drop, ← List.map_take] at this
theorem OT {α : Type} (f : α → List T) (e : Nat) (xs : List α) (h : ∀ x, (f x).length = e) : K3 (one (.sl (xs.map f))) [] e (xs.map f) := .of (.sl _ _ (FM h xs))
section run
variable {dr : Bool} {Q : St → Prop} {r i : Nat} {st : St} {log : List (Nat × A3)} {o : Oper} {gs : List (Operand × D)}
theorem Lc {α : Type} (f : α → List T) (xs : List α) {x : Operand} {t el s e l h b lo0 len lo1 len1 : Nat} {lo hi : Option Operand} {rl rh : List (Operand × D)} {d : D} (hat : At st.env ops i X.n (.slice t x lo hi none) s gs)
  (hx : opd st.env x = some d) (hD : JI d b e (xs.map f) lo0 len) (hb : st.bx b = some (.vec e (xs.map f))) (ht : sliceB P t el = true) (he : EI P el e = true) (hlo : LA lo 0 l rl) (hhi : LA hi len h rh) (h1 : Cw st.env rl) (h2 : Cw st.env rh) (hlh : l ≤ h) (hhl : lo0 + h ≤ xs.length) (e1 : lo0 + l = lo1) (e2 : h - l = len1)
  (next : AE P X ops dr Q r (i + 1) (A3.upd ⟨gs ++ ((x, d) :: (rl ++ rh)), [(b, .vec e (xs.map f))], some s, some (.e (.one (.view b e lo1 len1))), [], []⟩ st) ((i, ⟨gs ++ ((x, d) :: (rl ++ rh)), [(b, .vec e (xs.map f))], some s, some (.e (.one (.view b e lo1 len1))), [], []⟩) :: log)) : AE P X ops dr Q (r + 1) i st log := by
 subst e1; subst e2
 exact NP hat hx hD hb ht he hlo hhi h1 h2 hlh (by simpa using hhl) next
theorem Mv {α : Type} (f : α → List T) (xs ys : List α) {x y : Operand} {t t2 el s e b lo len : Nat} {d d2 : D} {rb2 : List (Nat × AO)} (hat : At st.env ops i X.n (.call ⟨.builtin .copy, #[x, y], #[t, t2]⟩) s gs)
  (hx : opd st.env x = some d) (hD : JI d b e (xs.map f) lo len) (hb : st.bx b = some (.vec e (xs.map f))) (hy : opd st.env y = some d2) (hS : K3 d2 rb2 e (ys.map f)) (hb2 : Ej st.bx rb2) (ht : sliceB P t el = true) (he : EI P el e = true)
  (next : AE P X ops dr Q r (i + 1) (A3.upd ⟨gs ++ [(x, d), (y, d2)], (b, .vec e (xs.map f)) :: rb2, some s, some (vD (.int .i64 ((vT ys.length len : Nat) : Int))), [(b, .vec e ((Kh xs lo (ys.take (vT ys.length len))).map f))], []⟩ st) ((i, ⟨gs ++ [(x, d), (y, d2)], (b, .vec e (xs.map f)) :: rb2, some s, some (vD (.int .i64 ((vT ys.length len : Nat) : Int))), [(b, .vec e ((Kh xs lo (ys.take (vT ys.length len))).map f))], []⟩) :: log)) : AE P X ops dr Q (r + 1) i st log := by
 have hl : (ys.map f).length = ys.length := vG _
 refine PJ hat hx hD hb hy hS hb2 ht he (rows' := (Kh xs lo (ys.take (vT ys.length len))).map f) ?_ ?_
 ·rw [hl, ← List.map_take, Oi]
 ·rw [hl]; exact next
end run
theorem Py {c : Code} {Q : Exit → St → Prop} {st : St} (h : W P X c (fun e st => ∃ st', Dx P X st st' ∧ Q e st') st) : W P X c Q st := by
 intro a w hs
 refine wp_mono (h a w hs) ?_
 rintro e a' w' ⟨st', ⟨st2, h1, h2⟩, h3⟩
 exact ⟨st2, h2, h1 a' w' h3⟩
def Mw (f : Nat → Nat) (env : Nat → Option D) : List (Nat × D) → Prop
 | [] => True
 | (s, d) :: ps => env s = some (d.ren f) ∧ Mw f env ps
def L8 (f : Nat → Nat) (bx : Nat → Option AO) : List (Nat × AO) → Prop
 | [] => True
 | (b, k) :: ps => bx (f b) = some (k.ren f) ∧ L8 f bx ps
def CE : List (Nat × AO) → List Nat
 | [] => []
 | (b, _) :: ps => b :: CE ps
def H2 (f : Nat → Nat) : List Nat → Bool
 | [] => true
 | b :: bs => (if AV b then f b == b else !AV (f b)) && H2 f bs
def Rn (b : Nat) : List Nat → Bool
 | [] => false
 | c :: cs => c == b || Rn b cs
def JY (ns : List Nat) : List (Nat × D) → Bool
 | [] => true
 | (_, d) :: ps => (d.names.all fun b => Rn b ns) && JY ns ps
def J3 (ns : List Nat) : List (Nat × AO) → Bool
 | [] => true
 | (_, d) :: ps => (d.names.all fun b => Rn b ns) && J3 ns ps
theorem Lu {f : Nat → Nat} {env : Nat → Option D} : ∀ {el : List (Nat × D)}, Mw f env el → OB f env el
 | [], _ => trivial
 | (_, _) :: _, h => ⟨h.1, Lu h.2⟩
theorem KZ {f : Nat → Nat} {bx : Nat → Option AO} : ∀ {bl : List (Nat × AO)}, L8 f bx bl → O4 f bx bl
 | [], _ => trivial
 | (_, _) :: _, h => ⟨h.1, KZ h.2⟩
theorem JQ : ∀ bl : List (Nat × AO), CE bl = bl.map (·.1)
 | [] => rfl
 | (b, k) :: ps => by simp [CE, JQ ps]
theorem J6 {f : Nat → Nat} : ∀ bl : List (Nat × AO), H2 f (CE bl) = bl.all fun p => if AV p.1 then f p.1 == p.1 else !AV (f p.1)
 | [] => rfl
 | (b, k) :: ps => by simp only [CE, H2, vU, J6 ps]
theorem LS {b : Nat} : ∀ bl : List (Nat × AO), Rn b (CE bl) = bl.any fun q => q.1 == b
 | [] => rfl
 | (c, k) :: ps => by simp only [CE, Rn, List.any_cons, LS ps]
theorem Li (bl : List (Nat × AO)) : ∀ el : List (Nat × D), JY (CE bl) el = el.all fun p => p.2.names.all fun b => bl.any fun q => q.1 == b
 | [] => rfl
 | (s, d) :: ps => by simp only [JY, vU, Li bl ps, LS]
theorem K6 (bl : List (Nat × AO)) : ∀ el : List (Nat × AO), J3 (CE bl) el = el.all fun p => p.2.names.all fun b => bl.any fun q => q.1 == b
 | [] => rfl
 | (s, d) :: ps => by simp only [J3, vU, K6 bl ps, LS]
theorem M1 {st : St} (f : Nat → Nat) (el : List (Nat × D)) (bl : List (Nat × AO)) (he : Mw f st.env el) (hb : L8 f st.bx bl) (hi : (E7 ((CE bl).map f) && H2 f (CE bl)) = true) (hs : (JY (CE bl) el && J3 (CE bl) bl) = true) : Dx P X st (mk el bl) := by
 refine Or f el bl (Lu he) (KZ hb) ?_ ?_
 ·rw [J6, JQ] at hi; exact hi
 ·rw [Li, K6] at hs; exact hs
theorem MD {dr : Bool} {Q : St → Prop} {r i : Nat} {st : St} {log : List (Nat × A3)} {gs : List (Operand × D)} {x y : Operand} {t s : Nat} {b : ByteArray} {k : IntKind} {n v : Int} (hat : At st.env ops i X.n (.index t x y) s gs)
  (hx : opd st.env x = some (vD (.string b))) (hy : opd st.env y = some (vD (.int k n))) (ht : HP P t = true) (hv : ON b n = some v)
  (next : AE P X ops dr Q r (i + 1) (A3.upd ⟨gs ++ [(x, vD (.string b)), (y, vD (.int k n))], [], some s, some (vD (.int .u8 v)), [], []⟩ st) ((i, ⟨gs ++ [(x, vD (.string b)), (y, vD (.int k n))], [], some s, some (vD (.int .u8 v)), [], []⟩) :: log)) : AE P X ops dr Q (r + 1) i st log := by
 obtain ⟨c, h0, hc, e⟩ := MC (f := some) (r := v) (by rw [hv]; rfl)
 cases e
 exact Nc hat hx hy ht h0 hc next
theorem Ka {t kt el : TypeId} {k : IntKind} (h1 : P.underlying t = some (.map kt el)) (h2 : P.underlying kt = some (.int k)) : K7 P t (Value.int k) where
 ty := ⟨kt, el, .int k, h1, h2, fun a b => by simp [Instr.sameNow], fun e n v w => by
  unfold Instr.checkKey
  refine Ab (As h2 w) ?_
  rfl⟩
 same := fun a b h => by
  show (k == k && b == a) = true
  rw [beq_iff_eq] at h; subst h; simp
end Go.Lift
namespace Go.Lift
open Go.RowKit
variable {P : Program} {X : EC} {ops : Array Oper}
def hd (env : Nat → Option D) (ops : Array Oper) (i n : Nat) : Option (Op × Nat × List (Operand × D)) := match RX ops i n with
 | some (op, s) => some (op, s, [])
 | none => match R2 ops i n with
  | some (op, s, t, want) => (match env t, want with
   | some (.e (.one (.pure (.val (.bool true))))), true => some (op, s, [(.tmp t, bD true)])
   | some (.e (.one (.pure (.val (.bool false))))), false => some (op, s, [(.tmp t, bD false)])
   | _, _ => none)
  | none => none
theorem Bq {env : Nat → Option D} {n i s : Nat} {op : Op} {gs : List (Operand × D)} (h : hd env ops i n = some (op, s, gs)) : At env ops i n op s gs := by
 unfold hd at h
 split at h
 ·rename_i e; cases h; exact .p e
 ·split at h
  ·rename_i e
   split at h
   ·rename_i e2; cases h; exact .g e e2
   ·rename_i e2; cases h; exact .g e e2
   ·cases h
  ·cases h
theorem t2 {α β : Type} {a c : α} {b d : β} (h : (a, b) = (c, d)) : a = c ∧ b = d := Prod.mk.inj h
abbrev Nx (P : Program) (X : EC) (ops : Array Oper) (dr : Bool) (Q : St → Prop) (r i : Nat) (st : St) (log : List (Nat × A3)) (l : A3) : Prop := AE P X ops dr Q r (i + 1) (A3.upd l st) ((i, l) :: log)
theorem sj {α : Type} {a b : α} (h : some a = some b) : a = b := Option.some.inj h
def NL (env : Nat → Option D) : List Operand → Option (List D)
 | [] => some []
 | x :: xs => match opd env x, NL env xs with
  | some d, some ds => some (d :: ds)
  | _, _ => none
theorem KM {env : Nat → Option D} : ∀ {xs : List Operand} {ds : List D}, NL env xs = some ds → xs.length = ds.length ∧ Cw env (Em xs ds)
 | [], ds, h => by cases h; exact ⟨rfl, trivial⟩
 | x :: xs, ds, h => by
  simp only [NL] at h
  split at h
  ·rename_i e1 e2
   cases h
   have := KM e2
   exact ⟨by simp [this.1], e1, this.2⟩
  ·cases h
def RP (bx : Nat → Option AO) : List Nat → Option (List (Nat × AO))
 | [] => some []
 | b :: bs => match bx b, RP bx bs with
  | some k, some ks => some ((b, k) :: ks)
  | _, _ => none
theorem M7 {bx : Nat → Option AO} : ∀ {l : List Nat} {bs : List (Nat × AO)}, RP bx l = some bs → Ej bx bs
 | [], bs, h => by cases h; trivial
 | b :: l, bs, h => by
  simp only [RP] at h
  split at h
  ·rename_i e1 e2
   cases h
   exact ⟨e1, M7 e2⟩
  ·cases h
def Qf (env : Nat → Option D) : List (Nat × Operand) → Option (List (Nat × Operand × E))
 | [] => some []
 | p :: ps => match opd env p.2, Qf env ps with
  | some (.e y), some qs => some ((p.1, p.2, y) :: qs)
  | _, _ => none
theorem Mm {env : Nat → Option D} : ∀ {l : List (Nat × Operand)} {ps : List (Nat × Operand × E)}, Qf env l = some ps → l = (ps.map fun p => (p.1, p.2.1)) ∧ Cw env (DS ps)
 | [], ps, h => by cases h; exact ⟨rfl, trivial⟩
 | p :: l, ps, h => by
  simp only [Qf] at h
  split at h
  ·rename_i e1 e2
   cases h
   have := Mm e2
   exact ⟨by rw [vI, ← this.1], e1, this.2⟩
  ·cases h
theorem N5 {env : Nat → Option D} {parts : Array (Nat × Operand)} {ps : List (Nat × Operand × E)} (h : Qf env parts.toList = some ps) : parts = (ps.map fun p => (p.1, p.2.1)).toArray ∧ Cw env (DS ps) := by
 have := Mm h
 exact ⟨by rw [← this.1], this.2⟩
def Oy (k : Nat) : List (Nat × Operand × E) → Bool
 | [] => true
 | p :: ps => Nat.beq p.1 k && Oy (k + 1) ps
theorem Mr : ∀ {k : Nat} {ps : List (Nat × Operand × E)}, Oy k ps = true → ps.map (·.1) = zC6 k ps.length
 | _, [], _ => rfl
 | k, p :: ps, h => by
  simp only [Oy, uT] at h
  rw [vI, zB0, List.range'_succ, Mr h.2, Nat.eq_of_beq_eq_true h.1]
def Se : Option AO → Bool
 | none => true
 | some _ => false
theorem Kp {bx : Nat → Option AO} : ∀ {ns : List Nat}, (ns.all fun n => Se (bx n)) = true → H4 bx ns
 | [], _ => trivial
 | n :: ns, h => by
  simp only [vU, uT] at h
  refine ⟨?_, Kp h.2⟩
  have := h.1
  cases hb : bx n with
  | none => rfl
  | some k => rw [hb] at this; cases this
theorem JP {ns : List Nat} (h : (E7 ns && (ns.all fun n => !AV n)) = true) : GW ns := by
 rw [uT] at h
 exact ⟨CR h.1, fun c hc => by simpa using uU.1 h.2 c hc⟩
def Qr (env : Nat → Option D) : List (Nat × D) → List (Option D)
 | [] => []
 | (s, _) :: ps => env s :: Qr env ps
def Ri (f : Nat → Nat) : List (Nat × D) → List (Option D)
 | [] => []
 | (_, d) :: ps => some (d.ren f) :: Ri f ps
def QS (f : Nat → Nat) (bx : Nat → Option AO) : List (Nat × AO) → List (Option AO)
 | [] => []
 | (b, _) :: ps => bx (f b) :: QS f bx ps
def QA (f : Nat → Nat) : List (Nat × AO) → List (Option AO)
 | [] => []
 | (_, k) :: ps => some (k.ren f) :: QA f ps
theorem Nn {f : Nat → Nat} {env : Nat → Option D} : ∀ {el : List (Nat × D)}, Qr env el = Ri f el → Mw f env el
 | [], _ => trivial
 | (s, d) :: el, h => by
  simp only [Qr, Ri] at h
  obtain ⟨h1, h2⟩ := List.cons.inj h
  exact ⟨h1, Nn h2⟩
theorem Nz {f : Nat → Nat} {bx : Nat → Option AO} : ∀ {el : List (Nat × AO)}, QS f bx el = QA f el → L8 f bx el
 | [], _ => trivial
 | (s, d) :: el, h => by
  simp only [QS, QA] at h
  obtain ⟨h1, h2⟩ := List.cons.inj h
  exact ⟨h1, Nz h2⟩
theorem sm {st : St} (l : List (Nat × Nat)) (el : List (Nat × D)) (bl : List (Nat × AO)) (h : (Qr st.env el, QS (rn l) st.bx bl) = (Ri (rn l) el, QA (rn l) bl)) (hi : ((E7 ((CE bl).map (rn l)) && H2 (rn l) (CE bl)) && (JY (CE bl) el && J3 (CE bl) bl)) = true) : Dx P X st (mk el bl) :=
 M1 (rn l) el bl (Nn (t2 h).1) (Nz (t2 h).2) (zD6.1 hi).1 (zD6.1 hi).2
section run
variable {dr : Bool} {Q : St → Prop} {r i : Nat} {st : St} {log : List (Nat × A3)} {gs : List (Operand × D)}
theorem qm {x : Operand} {d : D} {s : Nat} (h : (hd st.env ops i X.n, opd st.env x) = (some (.move x, s, gs), some d)) (next : Nx P X ops dr Q r i st log ⟨gs ++ [(x, d)], [], some s, some d, [], []⟩) : AE P X ops dr Q (r + 1) i st log :=
 P8 (Bq (t2 h).1) (t2 h).2 next
theorem qa {x : Operand} {d : D} {s : Nat} (h : (hd st.env ops i X.n, opd st.env x) = (some (.assign x, s, gs), some d)) (next : Nx P X ops dr Q r i st log ⟨gs ++ [(x, d)], [], some s, some d, [], []⟩) : AE P X ops dr Q (r + 1) i st log :=
 NN (Bq (t2 h).1) (t2 h).2 next
theorem qn {j t s : Nat} {want : Bool} (h : (PI ops i X.n, st.env t) = (some (j, s, t, want), some (bD (!want)))) (next : Nx P X ops dr Q r i st log ⟨[(.tmp t, bD (!want))], [], some s, some uD, [], []⟩) : AE P X ops dr Q (r + 1) i st log :=
 PZ (t2 h).1 (t2 h).2 next
theorem qu {j t s : Nat} {want : Bool} (h : (PI ops i X.n, st.env t) = (some (j, s, t, want), some uD)) (next : Nx P X ops dr Q r i st log ⟨[(.tmp t, uD)], [], some s, some uD, [], []⟩) : AE P X ops dr Q (r + 1) i st log :=
 PO (t2 h).1 (t2 h).2 next
theorem qp {c x y : Operand} {b : Bool} {d : D} {z : Operand} {s : Nat} (h : (hd st.env ops i X.n, opd st.env c, (if b then x else y), opd st.env z) = (some (.pick c x y, s, gs), some (bD b), z, some d)) (next : Nx P X ops dr Q r i st log ⟨gs ++ [(c, bD b), (z, d)], [], some s, some d, [], []⟩) : AE P X ops dr Q (r + 1) i st log :=
 PG (Bq (t2 h).1) (t2 (t2 h).2).1 (t2 (t2 (t2 h).2).2).1 (t2 (t2 (t2 h).2).2).2 next
theorem qf {x : Operand} {b k f off s : Nat} {t : TypeId} (hf : AW P t f off = true) (h : (hd st.env ops i X.n, opd st.env x) = (some (.fieldAddr t x f, s, gs), some (.e (.one (.ptr b k))))) (next : Nx P X ops dr Q r i st log ⟨gs ++ [(x, .e (.one (.ptr b k)))], [], some s, some (.e (.one (.ptr b (k + off)))), [], []⟩) : AE P X ops dr Q (r + 1) i st log :=
 Lj (Bq (t2 h).1) (t2 h).2 hf next
theorem qg {x : Operand} {ts us : List T} {f off s : Nat} {t : TypeId} (hf : AW P t f off = true) (h : (hd st.env ops i X.n, opd st.env x, zA8 (off) (ts.length), ts.drop off) = (some (.fieldAddr t x f, s, gs), some (.e (.one (.rop ts))), true, us)) (next : Nx P X ops dr Q r i st log ⟨gs ++ [(x, .e (.one (.rop ts)))], [], some s, some (.e (.one (.rop us))), [], []⟩) : AE P X ops dr Q (r + 1) i st log :=
 Kn (Bq (t2 h).1) (t2 (t2 h).2).1 hf (vH (t2 (t2 (t2 h).2).2).1) (t2 (t2 (t2 h).2).2).2 next
theorem ql {x : Operand} {b k s : Nat} {cells : List C} {c : C} {t : TypeId} (ht : CQ P t false = true) (h : (hd st.env ops i X.n, opd st.env x, st.bx b, cells[k]?) = (some (.load t x, s, gs), some (.e (.one (.ptr b k))), some (.box cells), some c)) (next : Nx P X ops dr Q r i st log ⟨gs ++ [(x, .e (.one (.ptr b k)))], [(b, .box cells)], some s, some (.e (.one c)), [], []⟩) : AE P X ops dr Q (r + 1) i st log :=
 N9 (Bq (t2 h).1) (t2 (t2 h).2).1 ht (t2 (t2 (t2 h).2).2).1 (t2 (t2 (t2 h).2).2).2 next
theorem qL {x : Operand} {b k n s : Nat} {cells cs : List C} {t : TypeId} (ht : CQ P t true = true) (hz : EI P t n = true) (h : (hd st.env ops i X.n, opd st.env x, st.bx b, (cells.drop k).take n, cs.length) = (some (.load t x, s, gs), some (.e (.one (.ptr b k))), some (.box cells), cs, n)) (next : Nx P X ops dr Q r i st log ⟨gs ++ [(x, .e (.one (.ptr b k)))], [(b, .box cells)], some s, some (.e (.agg cs)), [], []⟩) : AE P X ops dr Q (r + 1) i st log :=
 OP (Bq (t2 h).1) (t2 (t2 h).2).1 ht hz (t2 (t2 (t2 h).2).2).1 (t2 (t2 (t2 (t2 h).2).2).2).1 (t2 (t2 (t2 (t2 h).2).2).2).2 next
theorem qk {x : Operand} {s : Nat} {ts : List T} {u : T} {t : TypeId} (ht : CQ P t false = true) (h : (hd st.env ops i X.n, opd st.env x, ts[0]?) = (some (.load t x, s, gs), some (.e (.one (.rop ts))), some u)) (next : Nx P X ops dr Q r i st log ⟨gs ++ [(x, .e (.one (.rop ts)))], [], some s, some (one u), [], []⟩) : AE P X ops dr Q (r + 1) i st log :=
 NY (Bq (t2 h).1) (t2 (t2 h).2).1 ht (t2 (t2 h).2).2 next
theorem qK {x : Operand} {s n : Nat} {ts us : List T} {t : TypeId} (ht : CQ P t true = true) (hz : EI P t n = true) (h : (hd st.env ops i X.n, opd st.env x, ts.take n, us.length) = (some (.load t x, s, gs), some (.e (.one (.rop ts))), us, n)) (next : Nx P X ops dr Q r i st log ⟨gs ++ [(x, .e (.one (.rop ts)))], [], some s, some (.e (.agg (us.map C.pure))), [], []⟩) : AE P X ops dr Q (r + 1) i st log :=
 MY (Bq (t2 h).1) (t2 (t2 h).2).1 ht hz (t2 (t2 (t2 h).2).2).1 (t2 (t2 (t2 h).2).2).2 next
theorem qx {x : Operand} {xs : List E} {y : E} {k s : Nat} (h : (hd st.env ops i X.n, opd st.env x, xs[k]?) = (some (.extract x k, s, gs), some (.tup xs), some y)) (next : Nx P X ops dr Q r i st log ⟨gs ++ [(x, .tup xs)], [], some s, some (.e y), [], []⟩) : AE P X ops dr Q (r + 1) i st log :=
 MB (Bq (t2 h).1) (t2 (t2 h).2).1 (t2 (t2 h).2).2 next
theorem qb {x : Operand} {y : E} {s : Nat} {el : TypeId} (h : (hd st.env ops i X.n, opd st.env x, st.bx s) = (some (.box el x, s, gs), some (.e y), none)) (next : Nx P X ops dr Q r i st log ⟨gs ++ [(x, .e y)], [], some s, some (.e (.one (.ptr s 0))), [(s, .box y.cells)], [s]⟩) : AE P X ops dr Q (r + 1) i st log :=
 RF (Bq (t2 h).1) (t2 (t2 h).2).1 (t2 (t2 h).2).2 next
theorem qz {z : Value} {zs : List Value} {s : Nat} {el : TypeId} (hz : B3 P el = some z) (h : (hd st.env ops i X.n, z.cells.toList, zs.all DP, st.bx s) = (some (.alloc el, s, gs), zs, true, none)) (next : Nx P X ops dr Q r i st log ⟨gs ++ [], [], some s, some (.e (.one (.ptr s 0))), [(s, .box (zs.map fun v => C.pure (T.of v)))], [s]⟩) : AE P X ops dr Q (r + 1) i st log :=
 O3 (Bq (t2 h).1) hz (t2 (t2 h).2).1 (t2 (t2 (t2 h).2).2).1 (t2 (t2 (t2 h).2).2).2 next
theorem qs {x y : Operand} {b k n : Nat} {cells cells' : List C} {v : E} {t : TypeId} (hz : EI P t n = true) (h : (MX ops i, opd st.env x, opd st.env y, st.bx b, v.cells.length, zA8 (k + n) (cells.length), FO cells k v.cells) = (some (.store t x y), some (.e (.one (.ptr b k))), some (.e v), some (.box cells), n, true, cells')) (next : Nx P X ops dr Q r i st log ⟨[(x, .e (.one (.ptr b k))), (y, .e v)], [(b, .box cells)], none, none, [(b, .box cells')], []⟩) : AE P X ops dr Q (r + 1) i st log :=
 OD (t2 h).1 (t2 (t2 h).2).1 (t2 (t2 (t2 h).2).2).1 (t2 (t2 (t2 (t2 h).2).2).2).1 hz (t2 (t2 (t2 (t2 (t2 h).2).2).2).2).1 (vH (t2 (t2 (t2 (t2 (t2 (t2 h).2).2).2).2).2).1) (t2 (t2 (t2 (t2 (t2 (t2 h).2).2).2).2).2).2 next
theorem qi {x y : Operand} {s e : Nat} {rows : List (List T)} {row : List T} {t el : TypeId} {k : IntKind} {n : Int} (ht : sliceB P t el = true) (hz : EI P el e = true) (h0 : 0 ≤ n) (hrow : rows[n.toNat]? = some row) (h : (hd st.env ops i X.n, opd st.env x, opd st.env y, row.length) = (some (.indexAddr t x y, s, gs), some (one (.sl rows)), some (vD (.int k n)), e)) (next : Nx P X ops dr Q r i st log ⟨gs ++ [(x, one (.sl rows)), (y, vD (.int k n))], [], some s, some (.e (.one (.rop row))), [], []⟩) : AE P X ops dr Q (r + 1) i st log :=
 O5 (Bq (t2 h).1) (t2 (t2 h).2).1 (t2 (t2 (t2 h).2).2).1 ht hz h0 hrow (t2 (t2 (t2 h).2).2).2 next
theorem qI {x y : Operand} {s e b : Nat} {rows : List (List T)} {row : List T} {t el : TypeId} {k : IntKind} {n : Int} (ht : sliceB P t el = true) (hz : EI P el e = true) (h0 : 0 ≤ n) (hrow : rows[n.toNat]? = some row) (h : (hd st.env ops i X.n, opd st.env x, opd st.env y, st.bx b) = (some (.indexAddr t x y, s, gs), some (.e (.one (.own b))), some (vD (.int k n)), some (.vec e rows))) (next : Nx P X ops dr Q r i st log ⟨gs ++ [(x, .e (.one (.own b))), (y, vD (.int k n))], [(b, .vec e rows)], some s, some (.e (.one (.eptr b e n.toNat 0))), [], []⟩) : AE P X ops dr Q (r + 1) i st log :=
 Jl (Bq (t2 h).1) (t2 (t2 h).2).1 (t2 (t2 (t2 h).2).2).1 (t2 (t2 (t2 h).2).2).2 ht hz h0 hrow next
theorem qj {x : Operand} {b e ix k s : Nat} {rows : List (List T)} {row : List T} {u : T} {t : TypeId} (ht : CQ P t false = true) (hrow : rows[ix]? = some row) (h : (hd st.env ops i X.n, opd st.env x, st.bx b, row[k]?) = (some (.load t x, s, gs), some (.e (.one (.eptr b e ix k))), some (.vec e rows), some u)) (next : Nx P X ops dr Q r i st log ⟨gs ++ [(x, .e (.one (.eptr b e ix k)))], [(b, .vec e rows)], some s, some (one u), [], []⟩) : AE P X ops dr Q (r + 1) i st log :=
 I7 (Bq (t2 h).1) (t2 (t2 h).2).1 ht (t2 (t2 (t2 h).2).2).1 hrow (t2 (t2 (t2 h).2).2).2 next
theorem qJ {x : Operand} {b e ix s : Nat} {rows : List (List T)} {row : List T} {t : TypeId} (ht : CQ P t true = true) (hz : EI P t e = true) (hrow : rows[ix]? = some row) (h : (hd st.env ops i X.n, opd st.env x, st.bx b) = (some (.load t x, s, gs), some (.e (.one (.eptr b e ix 0))), some (.vec e rows))) (next : Nx P X ops dr Q r i st log ⟨gs ++ [(x, .e (.one (.eptr b e ix 0)))], [(b, .vec e rows)], some s, some (.e (.agg (row.map C.pure))), [], []⟩) : AE P X ops dr Q (r + 1) i st log :=
 Ni (Bq (t2 h).1) (t2 (t2 h).2).1 ht hz (t2 (t2 h).2).2 hrow next
theorem FW {x : Operand} {s b k : Nat} (h : (hd st.env ops i X.n, opd st.env x) = (some (.nilCheck x, s, gs), some (.e (.one (.ptr b k))))) (next : Nx P X ops dr Q r i st log ⟨gs ++ [(x, .e (.one (.ptr b k)))], [], some s, some (.e (.one (.ptr b k))), [], []⟩) : AE P X ops dr Q (r + 1) i st log :=
 LT (Bq (t2 h).1) (t2 h).2 next
theorem Cr {k : IntKind} {xt yt : TypeId} {x y : Operand} {a b : Int} {s : Nat} (h : (hd st.env ops i X.n, opd st.env x, opd st.env y) = (some (.binOp .add xt x y yt, s, gs), some (vD (.int k a)), some (vD (.int k b)))) (next : Nx P X ops dr Q r i st log ⟨gs ++ [(x, vD (.int k a)), (y, vD (.int k b))], [], some s, some (vD (.int k (k.wrap (a + b)))), [], []⟩) : AE P X ops dr Q (r + 1) i st log :=
 BC (Bq (t2 h).1) (t2 (t2 h).2).1 (t2 (t2 h).2).2 (OX _ _ _ _ _ _) rfl next
theorem HL {k : IntKind} {xt yt : TypeId} {x y : Operand} {a b : Int} {s : Nat} (h : (hd st.env ops i X.n, opd st.env x, opd st.env y) = (some (.binOp .sub xt x y yt, s, gs), some (vD (.int k a)), some (vD (.int k b)))) (next : Nx P X ops dr Q r i st log ⟨gs ++ [(x, vD (.int k a)), (y, vD (.int k b))], [], some s, some (vD (.int k (k.wrap (a - b)))), [], []⟩) : AE P X ops dr Q (r + 1) i st log :=
 BC (Bq (t2 h).1) (t2 (t2 h).2).1 (t2 (t2 h).2).2 (O6 _ _ _ _ _ _) rfl next
theorem J4 {k : IntKind} {xt yt : TypeId} {x y : Operand} {a b : Int} {s : Nat} (h : (hd st.env ops i X.n, opd st.env x, opd st.env y) = (some (.binOp .mul xt x y yt, s, gs), some (vD (.int k a)), some (vD (.int k b)))) (next : Nx P X ops dr Q r i st log ⟨gs ++ [(x, vD (.int k a)), (y, vD (.int k b))], [], some s, some (vD (.int k (k.wrap (a * b)))), [], []⟩) : AE P X ops dr Q (r + 1) i st log :=
 BC (Bq (t2 h).1) (t2 (t2 h).2).1 (t2 (t2 h).2).2 (OS _ _ _ _ _ _) rfl next
theorem AJ {k : IntKind} {xt yt : TypeId} {x y : Operand} {a b : Int} {s : Nat} (h : (hd st.env ops i X.n, opd st.env x, opd st.env y) = (some (.binOp .eql xt x y yt, s, gs), some (vD (.int k a)), some (vD (.int k b)))) (next : Nx P X ops dr Q r i st log ⟨gs ++ [(x, vD (.int k a)), (y, vD (.int k b))], [], some s, some (vD (.bool (a == b))), [], []⟩) : AE P X ops dr Q (r + 1) i st log :=
 BC (Bq (t2 h).1) (t2 (t2 h).2).1 (t2 (t2 h).2).2 (Ov _ _ _ _ _ _) rfl next
theorem Co {k : IntKind} {xt yt : TypeId} {x y : Operand} {a b : Int} {s : Nat} (h : (hd st.env ops i X.n, opd st.env x, opd st.env y) = (some (.binOp .neq xt x y yt, s, gs), some (vD (.int k a)), some (vD (.int k b)))) (next : Nx P X ops dr Q r i st log ⟨gs ++ [(x, vD (.int k a)), (y, vD (.int k b))], [], some s, some (vD (.bool (a != b))), [], []⟩) : AE P X ops dr Q (r + 1) i st log :=
 BC (Bq (t2 h).1) (t2 (t2 h).2).1 (t2 (t2 h).2).2 (Oz _ _ _ _ _ _) rfl next
theorem A0 {k : IntKind} {xt yt : TypeId} {x y : Operand} {a b : Int} {s : Nat} (h : (hd st.env ops i X.n, opd st.env x, opd st.env y) = (some (.binOp .lss xt x y yt, s, gs), some (vD (.int k a)), some (vD (.int k b)))) (next : Nx P X ops dr Q r i st log ⟨gs ++ [(x, vD (.int k a)), (y, vD (.int k b))], [], some s, some (vD (.bool (decide (a < b)))), [], []⟩) : AE P X ops dr Q (r + 1) i st log :=
 BC (Bq (t2 h).1) (t2 (t2 h).2).1 (t2 (t2 h).2).2 (O8 _ _ _ _ _ _) rfl next
theorem Pb {k : IntKind} {xt yt : TypeId} {x y : Operand} {a b : Int} {s : Nat} (h : (hd st.env ops i X.n, opd st.env x, opd st.env y) = (some (.binOp .leq xt x y yt, s, gs), some (vD (.int k a)), some (vD (.int k b)))) (next : Nx P X ops dr Q r i st log ⟨gs ++ [(x, vD (.int k a)), (y, vD (.int k b))], [], some s, some (vD (.bool (decide (a ≤ b)))), [], []⟩) : AE P X ops dr Q (r + 1) i st log :=
 BC (Bq (t2 h).1) (t2 (t2 h).2).1 (t2 (t2 h).2).2 (O0 _ _ _ _ _ _) rfl next
theorem Eg {k : IntKind} {xt yt : TypeId} {x y : Operand} {a b : Int} {s : Nat} (h : (hd st.env ops i X.n, opd st.env x, opd st.env y) = (some (.binOp .gtr xt x y yt, s, gs), some (vD (.int k a)), some (vD (.int k b)))) (next : Nx P X ops dr Q r i st log ⟨gs ++ [(x, vD (.int k a)), (y, vD (.int k b))], [], some s, some (vD (.bool (decide (b < a)))), [], []⟩) : AE P X ops dr Q (r + 1) i st log :=
 BC (Bq (t2 h).1) (t2 (t2 h).2).1 (t2 (t2 h).2).2 (OE _ _ _ _ _ _) rfl next
theorem Eh {k : IntKind} {xt yt : TypeId} {x y : Operand} {a b : Int} {s : Nat} (h : (hd st.env ops i X.n, opd st.env x, opd st.env y) = (some (.binOp .geq xt x y yt, s, gs), some (vD (.int k a)), some (vD (.int k b)))) (next : Nx P X ops dr Q r i st log ⟨gs ++ [(x, vD (.int k a)), (y, vD (.int k b))], [], some s, some (vD (.bool (decide (b ≤ a)))), [], []⟩) : AE P X ops dr Q (r + 1) i st log :=
 BC (Bq (t2 h).1) (t2 (t2 h).2).1 (t2 (t2 h).2).2 (OC _ _ _ _ _ _) rfl next
theorem Lb {k : IntKind} {xt yt : TypeId} {x y : Operand} {a b : Int} {s : Nat} (h : (hd st.env ops i X.n, opd st.env x, opd st.env y) = (some (.binOp .and xt x y yt, s, gs), some (vD (.int k a)), some (vD (.int k b)))) (next : Nx P X ops dr Q r i st log ⟨gs ++ [(x, vD (.int k a)), (y, vD (.int k b))], [], some s, some (vD (.int k (Fi k a b))), [], []⟩) : AE P X ops dr Q (r + 1) i st log :=
 BC (Bq (t2 h).1) (t2 (t2 h).2).1 (t2 (t2 h).2).2 (O7 _ _ _ _ _ _) rfl next
theorem PT {k : IntKind} {xt yt : TypeId} {x y : Operand} {a b : Int} {s : Nat} (h : (hd st.env ops i X.n, opd st.env x, opd st.env y) = (some (.binOp .or xt x y yt, s, gs), some (vD (.int k a)), some (vD (.int k b)))) (next : Nx P X ops dr Q r i st log ⟨gs ++ [(x, vD (.int k a)), (y, vD (.int k b))], [], some s, some (vD (.int k (LZ k a b))), [], []⟩) : AE P X ops dr Q (r + 1) i st log :=
 BC (Bq (t2 h).1) (t2 (t2 h).2).1 (t2 (t2 h).2).2 (PQ _ _ _ _ _ _) rfl next
theorem I9 {k : IntKind} {xt yt : TypeId} {x y : Operand} {a b : Int} {s : Nat} (h : (hd st.env ops i X.n, opd st.env x, opd st.env y) = (some (.binOp .andNot xt x y yt, s, gs), some (vD (.int k a)), some (vD (.int k b)))) (next : Nx P X ops dr Q r i st log ⟨gs ++ [(x, vD (.int k a)), (y, vD (.int k b))], [], some s, some (vD (.int k (F3 k a b))), [], []⟩) : AE P X ops dr Q (r + 1) i st log :=
 BC (Bq (t2 h).1) (t2 (t2 h).2).1 (t2 (t2 h).2).2 (LB _ _ _ _ _ _) rfl next
theorem Jp {k k' : IntKind} {xt yt : TypeId} {x y : Operand} {a b : Int} {s : Nat} (h : (hd st.env ops i X.n, opd st.env x, opd st.env y) = (some (.binOp .shl xt x y yt, s, gs), some (vD (.int k a)), some (vD (.int k' b)))) (hc : 0 ≤ b) (next : Nx P X ops dr Q r i st log ⟨gs ++ [(x, vD (.int k a)), (y, vD (.int k' b))], [], some s, some (vD (.int k (Fy k a b))), [], []⟩) : AE P X ops dr Q (r + 1) i st log :=
 BC (Bq (t2 h).1) (t2 (t2 h).2).1 (t2 (t2 h).2).2 (OU _ _ _ _ _ _ _ hc) rfl next
theorem II {k k' : IntKind} {xt yt : TypeId} {x y : Operand} {a b : Int} {s : Nat} (h : (hd st.env ops i X.n, opd st.env x, opd st.env y) = (some (.binOp .shr xt x y yt, s, gs), some (vD (.int k a)), some (vD (.int k' b)))) (hc : 0 ≤ b) (next : Nx P X ops dr Q r i st log ⟨gs ++ [(x, vD (.int k a)), (y, vD (.int k' b))], [], some s, some (vD (.int k (EJ k a b))), [], []⟩) : AE P X ops dr Q (r + 1) i st log :=
 BC (Bq (t2 h).1) (t2 (t2 h).2).1 (t2 (t2 h).2).2 (OG _ _ _ _ _ _ _ hc) rfl next
theorem QZ {k : IntKind} {xt yt : TypeId} {x y : Operand} {a b : Int} {s : Nat} (h : (hd st.env ops i X.n, opd st.env x, opd st.env y) = (some (.binOp .rem xt x y yt, s, gs), some (vD (.int k a)), some (vD (.int k b)))) (hc : b ≠ 0) (next : Nx P X ops dr Q r i st log ⟨gs ++ [(x, vD (.int k a)), (y, vD (.int k b))], [], some s, some (vD (.int k (a.tmod b))), [], []⟩) : AE P X ops dr Q (r + 1) i st log :=
 BC (Bq (t2 h).1) (t2 (t2 h).2).1 (t2 (t2 h).2).2 (O9 _ _ _ _ _ _ hc) rfl next
theorem Qo {k : IntKind} {xt yt : TypeId} {x y : Operand} {a b : Int} {s : Nat} (h : (hd st.env ops i X.n, opd st.env x, opd st.env y) = (some (.binOp .quo xt x y yt, s, gs), some (vD (.int k a)), some (vD (.int k b)))) (hc : b ≠ 0) (next : Nx P X ops dr Q r i st log ⟨gs ++ [(x, vD (.int k a)), (y, vD (.int k b))], [], some s, some (vD (.int k (k.wrap (a.tdiv b)))), [], []⟩) : AE P X ops dr Q (r + 1) i st log :=
 BC (Bq (t2 h).1) (t2 (t2 h).2).1 (t2 (t2 h).2).2 (O1 _ _ _ _ _ _ hc) rfl next
theorem Cn {xt : TypeId} {x : Operand} {b : Bool} {s : Nat} (h : (hd st.env ops i X.n, opd st.env x) = (some (.unOp .not xt x, s, gs), some (bD b))) (next : Nx P X ops dr Q r i st log ⟨gs ++ [(x, bD b)], [], some s, some (vD (.bool (!b))), [], []⟩) : AE P X ops dr Q (r + 1) i st log :=
 RV (Bq (t2 h).1) (t2 h).2 (Qc _) rfl next
theorem Hx {xt yt : TypeId} {k k' : IntKind} {x : Operand} {a : Int} {s : Nat} (hs : (P.underlying xt).isSome = true) (ht : JJ P yt k = true) (h : (hd st.env ops i X.n, opd st.env x) = (some (.convert xt yt x, s, gs), some (vD (.int k' a)))) (next : Nx P X ops dr Q r i st log ⟨gs ++ [(x, vD (.int k' a))], [], some s, some (vD (.int k (k.wrap a))), [], []⟩) : AE P X ops dr Q (r + 1) i st log :=
 LQ (Bq (t2 h).1) (t2 h).2 (M8 hs ht _ _) rfl next
theorem AM {α : Type} {f : α → List T} {xs : List α} {x : Operand} {s : Nat} {t el : TypeId} (ht : sliceB P t el = true) (h : (hd st.env ops i X.n, opd st.env x) = (some (.call ⟨.builtin .len, #[x], #[t]⟩, s, gs), some (one (.sl (xs.map f))))) (next : Nx P X ops dr Q r i st log ⟨gs ++ [(x, one (.sl (xs.map f)))], [], some s, some (vD (.int .i64 (xs.length : Int))), [], []⟩) : AE P X ops dr Q (r + 1) i st log :=
 PA (Bq (t2 h).1) (t2 h).2 (.sl _) trivial (vG _) ht next
theorem Kj {α : Type} {f : α → List T} {xs : List α} {x : Operand} {s b e : Nat} {t el : TypeId} (ht : sliceB P t el = true) (h : (hd st.env ops i X.n, opd st.env x, st.bx b) = (some (.call ⟨.builtin .len, #[x], #[t]⟩, s, gs), some (.e (.one (.own b))), some (.vec e (xs.map f)))) (next : Nx P X ops dr Q r i st log ⟨gs ++ [(x, .e (.one (.own b)))], [(b, .vec e (xs.map f))], some s, some (vD (.int .i64 (xs.length : Int))), [], []⟩) : AE P X ops dr Q (r + 1) i st log :=
 PA (Bq (t2 h).1) (t2 (t2 h).2).1 (.own _ _ _) ⟨(t2 (t2 h).2).2, trivial⟩ (vG _) ht next
theorem BA {t : TypeId} {s : Nat} {z : Value} {zs : List Value} {pl : List (Nat × Nat)} {cells : List C} {parts : Array (Nat × Operand)} {ps : List (Nat × Operand × E)} (hz : B3 P t = some z) (hpl : ET P t = some pl) (h : (hd st.env ops i X.n, Qf st.env parts.toList, z.cells.toList, zs.all DP, Hj (pl[·]?) (zs.map fun v => C.pure (T.of v)) (ps.map fun p => (p.1, p.2.2))) = (some (.build t parts, s, gs), some ps, zs, true, some cells)) (next : Nx P X ops dr Q r i st log ⟨gs ++ DS ps, [], some s, some (.e (.agg cells)), [], []⟩) : AE P X ops dr Q (r + 1) i st log :=
 have q := N5 (t2 (t2 h).2).1
 Oc ps (Bq (t2 h).1) (by rw [← q.1]) q.2 hz (t2 (t2 (t2 h).2).2).1 (t2 (t2 (t2 (t2 h).2).2).2).1 hpl (t2 (t2 (t2 (t2 h).2).2).2).2 next
theorem ER {t el : TypeId} {s n e : Nat} {z : Value} {rows : List (List T)} {parts : Array (Nat × Operand)} {ps : List (Nat × Operand × E)} (ht : sliceB P t el = true) (he : EI P el e = true) (hz : B3 P el = some z) (h : (hd st.env ops i X.n, Qf st.env parts.toList, st.bx s, Oy 0 ps, ps.length, zA8 (n * e) 16777216, (ps.map fun p => (p.1, p.2.2)).mapM (fun p => p.2.ts), rows.all (fun row => row.length == e)) = (some (.buildSlice t n parts, s, gs), some ps, none, true, n, true, some rows, true)) (next : Nx P X ops dr Q r i st log ⟨gs ++ DS ps, [], some s, some (.e (.one (.own s))), [(s, .vec e rows)], [s]⟩) : AE P X ops dr Q (r + 1) i st log :=
 have q := N5 (t2 (t2 h).2).1
 have g := (t2 (t2 (t2 h).2).2).2
 KN ps (Bq (t2 h).1) (by rw [← q.1]) q.2 (t2 (t2 (t2 h).2).2).1 ht he hz (Mr (t2 g).1) (t2 (t2 g).2).1 (vH (t2 (t2 (t2 g).2).2).1) (t2 (t2 (t2 (t2 g).2).2).2).1 (t2 (t2 (t2 (t2 g).2).2).2).2 next
theorem Ax {f s : Nat} {xs : List Operand} {ds0 ds : List D} {rv : List (Nat × List (List T))} {res : D} {ts : Array TypeId} (ns : List Nat) (hc : Ak P f ds rv res) (hf : Av P f = true) (h : (hd st.env ops i X.n, NL st.env xs, ds0.map D.nrm, ds.all K9, ns.length, E7 ns && (ns.all fun n => !AV n), ns.all (fun n => Se (st.bx n)), res.names.all (fun b => decide (b < rv.length))) = (some (.call ⟨.value (.func f), xs.toArray, ts⟩, s, gs), some ds0, ds, true, rv.length, true, true, true)) (next : Nx P X ops dr Q r i st log ⟨gs ++ Em xs ds0, [], some s, some (res.ren (nm ns)), Fj ns rv, ns⟩) : AE P X ops dr Q (r + 1) i st log :=
 have q := KM (t2 (t2 h).2).1
 have g := (t2 (t2 (t2 h).2).2).2
 PY ns hc (Bq (t2 h).1) hf q.1 q.2 (t2 (t2 (t2 h).2).2).1 (t2 g).1 (t2 (t2 g).2).1 (JP (t2 (t2 (t2 g).2).2).1) (Kp (t2 (t2 (t2 (t2 g).2).2).2).1) (t2 (t2 (t2 (t2 g).2).2).2).2 next
theorem Fp {f s : Nat} {xs : List Operand} {ds0 ds : List D} {rv : List (Nat × List (List T))} {res : D} {ts : Array TypeId} {bs : List (Nat × AO)} (ns lb : List Nat) (hc : Ak P f ds rv res) (hf : Av P f = true) (hfv : KV rv) (h : (hd st.env ops i X.n, NL st.env xs, RP st.bx lb, ds0.map (fun d => (d.lend bs).nrm), ds.all K9, ns.length, E7 ns && (ns.all fun n => !AV n), ns.all (fun n => Se (st.bx n)), res.flat, res.names.all (fun b => decide (b < rv.length))) = (some (.call ⟨.value (.func f), xs.toArray, ts⟩, s, gs), some ds0, some bs, ds, true, rv.length, true, true, true, true)) (next : Nx P X ops dr Q r i st log ⟨gs ++ Em xs ds0, bs, some s, some (res.ren (nm ns)), Fj ns rv, ns⟩) : AE P X ops dr Q (r + 1) i st log :=
 have q := KM (t2 (t2 h).2).1
 have g := (t2 (t2 (t2 h).2).2).2
 have g2 := (t2 (t2 (t2 g).2).2).2
 Ou ns bs hc (Bq (t2 h).1) hf q.1 q.2 (M7 (t2 (t2 (t2 h).2).2).1) (t2 g).1 (t2 (t2 g).2).1 (t2 (t2 (t2 g).2).2).1 (JP (t2 g2).1) (Kp (t2 (t2 g2).2).1) (t2 (t2 (t2 g2).2).2).1 hfv (t2 (t2 (t2 g2).2).2).2 next
theorem P1 {α : Type} {f : α → List T} {xs : List α} {ys : List α} {x y : Operand} {t t2' el el2 s e bytes b b2 : Nat} {z : Value} (ht : sliceB P t el = true) (ht2 : sliceB P t2' el2 = true) (he : EI P el e = true) (hby : Ei P el bytes = true) (hz : B3 P el = some z) (hlim : xs.length + ys.length ≤ Je) (h : (hd st.env ops i X.n, opd st.env x, st.bx b, opd st.env y, st.bx b2, st.bx s, z.cells.size, zA8 bytes 4096, [b].all (fun b => !AV b)) = (some (.call ⟨.builtin .append, #[x, y], #[t, t2']⟩, s, gs), some (.e (.one (.own b))), some (.vec e (xs.map f)), some (.e (.one (.own b2))), some (.vec e (ys.map f)), none, e, true, true)) (next : Nx P X ops dr Q r i st log ⟨gs ++ [(x, .e (.one (.own b))), (y, .e (.one (.own b2)))], [(b, .vec e (xs.map f))] ++ [(b2, .vec e (ys.map f))], some s, some (.e (.one (.own s))), (s, .vec e ((xs ++ ys).map f)) :: Gp [b], [s]⟩) : AE P X ops dr Q (r + 1) i st log :=
 KY (Bq (t2 h).1) (t2 (t2 h).2).1 (.own _ _ _) ⟨(t2 (t2 (t2 h).2).2).1, trivial⟩ (t2 (t2 (t2 (t2 h).2).2).2).1 (.own _ _ _) ⟨(t2 (t2 (t2 (t2 (t2 h).2).2).2).2).1, trivial⟩ (t2 (t2 (t2 (t2 (t2 (t2 h).2).2).2).2).2).1 ht ht2 he hby (vH (t2 (t2 (t2 (t2 (t2 (t2 (t2 (t2 h).2).2).2).2).2).2).2).1) hz (t2 (t2 (t2 (t2 (t2 (t2 (t2 h).2).2).2).2).2).2).1 (by simpa using hlim) (by simp) (t2 (t2 (t2 (t2 (t2 (t2 (t2 (t2 h).2).2).2).2).2).2).2).2 next
theorem LG {α : Type} {f : α → List T} {xs : List α} {ys : List α} {x y : Operand} {t t2' el el2 s e bytes b : Nat} {z : Value} (ht : sliceB P t el = true) (ht2 : sliceB P t2' el2 = true) (he : EI P el e = true) (hby : Ei P el bytes = true) (hz : B3 P el = some z) (hf : ∀ x, (f x).length = e) (hlim : xs.length + ys.length ≤ Je) (h : (hd st.env ops i X.n, opd st.env x, st.bx b, opd st.env y, st.bx s, z.cells.size, zA8 bytes 4096, [b].all (fun b => !AV b)) = (some (.call ⟨.builtin .append, #[x, y], #[t, t2']⟩, s, gs), some (.e (.one (.own b))), some (.vec e (xs.map f)), some (one (.sl (ys.map f))), none, e, true, true)) (next : Nx P X ops dr Q r i st log ⟨gs ++ [(x, .e (.one (.own b))), (y, one (.sl (ys.map f)))], [(b, .vec e (xs.map f))] ++ [], some s, some (.e (.one (.own s))), (s, .vec e ((xs ++ ys).map f)) :: Gp [b], [s]⟩) : AE P X ops dr Q (r + 1) i st log :=
 KY (Bq (t2 h).1) (t2 (t2 h).2).1 (.own _ _ _) ⟨(t2 (t2 (t2 h).2).2).1, trivial⟩ (t2 (t2 (t2 (t2 h).2).2).2).1 (.sl _ _ (FM hf _)) trivial (t2 (t2 (t2 (t2 (t2 h).2).2).2).2).1 ht ht2 he hby (vH (t2 (t2 (t2 (t2 (t2 (t2 (t2 h).2).2).2).2).2).2).1) hz (t2 (t2 (t2 (t2 (t2 (t2 h).2).2).2).2).2).1 (by simpa using hlim) (by simp) (t2 (t2 (t2 (t2 (t2 (t2 (t2 h).2).2).2).2).2).2).2 next
end run
end Go.Lift
namespace Go.Lift
open Go.RowKit
variable {P : Program}
def QV (P : Program) : List D → List D → Prop
 | [], [] => True
 | a :: ar, b :: bs => (∀ (w : World) (G : Gh) (v : Value), Ea P w G v a → Ea P w G v b) ∧ QV P ar bs
 | _, _ => False
theorem QV.get : ∀ {ar bs : List D}, QV P ar bs → ar.length = bs.length ∧ ∀ (j : Nat) (b : D), bs[j]? = some b → ∃ a, ar[j]? = some a ∧ ∀ (w : World) (G : Gh) (v : Value), Ea P w G v a → Ea P w G v b
 | [], [], _ => ⟨rfl, fun j b h => by simp at h⟩
 | a :: ar, b :: bs, h => by
  obtain ⟨h1, h2⟩ := QV.get h.2
  refine ⟨by simp [h1], fun j c hj => ?_⟩
  cases j with
  | zero => simp at hj; subst hj; exact ⟨a, rfl, h.1⟩
  | succ j => obtain ⟨a', g1, g2⟩ := h2 j c (by simpa using hj); exact ⟨a', by simpa using g1, g2⟩
theorem B6.weak {f : FuncId} {ds ds' : List D} {lent : List (AO × AO)} {rv : List AO} {res : D} (h : B6 P f ds lent rv res) (hp : QV P ds' ds) : B6 P f ds' lent rv res := by
 intro w G vs h1 hgk h2 h3 h4 hlen hargs
 obtain ⟨g1, g2⟩ := hp.get
 refine h w G vs h1 hgk h2 h3 h4 (by rw [hlen, g1]) fun j d hj => ?_
 obtain ⟨a, e1, e2⟩ := g2 j d hj
 exact e2 w G _ (hargs j a e1)
end Go.Lift
namespace Go.Lift
open Go.RowKit
variable {P : Program} {X : EC} {ops : Array Oper}
section run
variable {dr : Bool} {Q : St → Prop} {r i : Nat} {st : St} {log : List (Nat × A3)} {gs : List (Operand × D)}
end run
end Go.Lift
namespace Go.Lift
abbrev iC (x : Int) : C := .pure (.val (.int .i64 x))
abbrev sC (l : List (List T)) : C := .pure (.sl l)
abbrev iD (x : Int) : D := .e (.one (.pure (.val (.int .i64 x))))
abbrev pD (t : T) : D := .e (.one (.pure t))
abbrev oD (c : C) : D := .e (.one c)
theorem tv : True := trivial
end Go.Lift
namespace Go.Lift
open Go.RowKit
variable {P : Program} {X : EC} {ops : Array Oper}
section run
variable {dr : Bool} {Q : St → Prop} {r i : Nat} {st : St} {log : List (Nat × A3)} {o : Oper} {gs : List (Operand × D)}
end run
end Go.Lift
namespace Go.Lift
open Go.RowKit
variable {P : Program} {X : EC} {ops : Array Oper}
section run
variable {dr : Bool} {Q : St → Prop} {r i : Nat} {st : St} {log : List (Nat × A3)} {o : Oper} {gs : List (Operand × D)}
end run
end Go.Lift
namespace Go.Lift
open Go.RowKit
variable {P : Program} {X : EC} {ops : Array Oper}
end Go.Lift
namespace Go.Lift
open Go.RowKit
variable {P : Program} {X : EC} {ops : Array Oper}
section run
variable {dr : Bool} {Q : St → Prop} {r i : Nat} {st : St} {log : List (Nat × A3)} {o : Oper} {gs : List (Operand × D)}
end run
end Go.Lift
namespace Go.Lift
open Go.RowKit
variable {P : Program} {X : EC} {ops : Array Oper}
section run
variable {dr : Bool} {Q : St → Prop} {r i : Nat} {st : St} {log : List (Nat × A3)} {o : Oper} {gs : List (Operand × D)}
end run
end Go.Lift
namespace Go.Lift
open Go.RowKit
variable {P : Program} {X : EC} {ops : Array Oper}
section run
variable {dr : Bool} {Q : St → Prop} {r i : Nat} {st : St} {log : List (Nat × A3)} {o : Oper} {gs : List (Operand × D)}
end run
end Go.Lift
namespace Go.Lift
open Go.RowKit
variable {P : Program} {X : EC} {ops : Array Oper}
section run
variable {dr : Bool} {Q : St → Prop} {r i : Nat} {st : St} {log : List (Nat × A3)} {o : Oper} {gs : List (Operand × D)}
end run
end Go.Lift
namespace Go.Lift
open Go.RowKit
variable {P : Program} {X : EC}
theorem Bi {α : Type} {c : Operand} {x y : Code} {Q : Exit → St → Prop} {st : St} {b : Bool} {e1 e2 : Option α} {v : α} (h : AF b e1 e2 = some v) (ht : e1 = some v → W P X x Q st) (hf : e2 = some v → W P X y Q st) (hc : opd st.env c = some (bD b) := by exact rfl) : W P X (.cond c x y) Q st :=
 P5 hc (fun k => ht (Mt k h)) (fun k => hf (Mc k h))
theorem Dc {ops : Array Oper} {dr : Bool} {Q : St → Prop} {r i : Nat} {st : St} {log : List (Nat × A3)} {α : Type} {b : Bool} {e1 e2 : Option α} {v : α} (t : Nat) (h : AF b e1 e2 = some v) (hx : st.env t = some (bD b)) (h1 : e1 = some v → AE P X ops dr Q r i (St.put st (some t) (some (bD true))) log) (h2 : e2 = some v → AE P X ops dr Q r i (St.put st (some t) (some (bD false))) log) : AE P X ops dr Q r i st log :=
 Ox hx (fun k => h1 (Mt k h)) (fun k => h2 (Mc k h))
theorem sn {V R : Type} {J : V → Option R} {r : R} {S : V → St} {s : St} {v : V} {el : List (Nat × D)} {bl : List (Nat × AO)} (l : List (Nat × Nat)) (h : J v = some r) (e : S v = mk el bl := by exact rfl) (h1 : (Qr s.env el, QS (rn l) s.bx bl) = (Ri (rn l) el, QA (rn l) bl) := by exact rfl) (h2 : ((E7 ((CE bl).map (rn l)) && H2 (rn l) (CE bl)) && (JY (CE bl) el && J3 (CE bl) bl)) = true := by exact rfl) : ∃ v, J v = some r ∧ Dx P X s (S v) :=
 ⟨v, h, e ▸ sm l el bl h1 h2⟩
theorem Sq {y : Code} {id : Nat} {ops : Array Oper} {dr : Bool} {Q : Exit → St → Prop} {st : St} {n : Nat} (hm : P.follows .mixedOrders = true) (hn : ops.size = n)
  (h : AE P X ops dr (fun st' => W P X y Q st') n 0 st []) : W P X (.seq (.region id ops dr) y) Q st :=
 AP (Ah hm hn h)
theorem Cg {G : Prop} {α β : Type} {xs : List α} {i : Int} {f : α → Option β} {r : β} (h : (BU xs i).bind f = some r) (k : ∀ x, 0 ≤ i → xs[i.toNat]? = some x → f x = some r → G) : G := by
 obtain ⟨x, a, b, c⟩ := NK h
 exact k x a b c
theorem BD {G : Prop} {α β : Type} {x : Option α} {f : α → Option β} {r : β} (h : x.bind f = some r) (k : ∀ a, x = some a → f a = some r → G) : G := by
 obtain ⟨a, b, c⟩ := bind_some h
 exact k a b c
theorem FR {G : Prop} {β : Type} {p : Prop} [Decidable p] {f : Unit → Option β} {r : β} (h : (Eu p).bind f = some r) (k : p → f () = some r → G) : G := k (E8 h).1 (E8 h).2
section
variable {ops : Array Oper} {dr : Bool} {Q : St → Prop} {r i : Nat} {st : St} {log : List (Nat × A3)} {gs : List (Operand × D)}
theorem qe {x : Operand} {d : D} {s : Nat} (h : (hd st.env ops i X.n, opd st.env x) = (some (.assign x, s, gs), some d)) (k : Q (A3.upd ⟨gs ++ [(x, d)], [], some s, some d, [], []⟩ st)) : AE P X ops false Q (0 + 1) i st log :=
 qa h (Ac k)
def M9 (n : Nat) (ops : Array Oper) (i : Nat) (st : St) : Option A3 :=
 match (match PI ops i n with
  | some (_, s, t, want) => (match st.env t with
   | some (.e (.one (.pure (.val (.bool b))))) => (match b, want with
    | true, false => some (s, t, want)
    | false, true => some (s, t, want)
    | _, _ => none)
   | _ => none)
  | none => none) with
 | some (s, t, want) => some ⟨[(.tmp t, bD (!want))], [], some s, some uD, [], []⟩
 | none => match hd st.env ops i n with
  | some (.move x, s, gs) => (opd st.env x).map fun d => ⟨gs ++ [(x, d)], [], some s, some d, [], []⟩
  | _ => none
def Om (n : Nat) (ops : Array Oper) : Nat → Nat → St → List (Nat × A3) → Option (St × List (Nat × A3))
 | 0, _, st, log => some (st, log)
 | k + 1, i, st, log => match M9 n ops i st with
  | none => none
  | some l => Om n ops k (i + 1) (A3.upd l st) ((i, l) :: log)
theorem NR {l : A3} (h : M9 X.n ops i st = some l) (next : Nx P X ops dr Q r i st log l) : AE P X ops dr Q (r + 1) i st log := by
 unfold M9 at h
 split at h
 ·rename_i s t want hh
  split at hh
  ·rename_i j s' t' want' ha
   split at hh
   ·rename_i b hb
    split at hh
    ·cases hh; cases h; exact qn (want := false) (by rw [ha, hb]; rfl) next
    ·cases hh; cases h; exact qn (want := true) (by rw [ha, hb]; rfl) next
    ·cases hh
   ·cases hh
  ·cases hh
 ·split at h
  ·rename_i x s gs' hh
   cases hd' : opd st.env x with
   | none => rw [hd'] at h; cases h
   | some d =>
    rw [hd'] at h
    cases h
    exact qm (by rw [hh, hd']) next
  ·cases h
theorem qw (k : Nat) {st' : St} {log' : List (Nat × A3)} (h : Om X.n ops k i st log = some (st', log')) (next : AE P X ops dr Q r (i + k) st' log') : AE P X ops dr Q (r + k) i st log := by
 induction k generalizing i st log with
 | zero => cases h; exact next
 | succ k ih =>
  rw [Om] at h
  split at h
  ·cases h
  ·rename_i l hl
   exact NR hl (ih h (by rwa [zA9, Nat.add_comm 1]))
end
theorem cw {f n : Nat} {fn : Func} {c : Code} {args : List D} {rv : List (Nat × List (List T))} {res : D} {rs : List ResultVar} (hf : P.funcs[f]? = some fn)
  (h : ∀ (w0 : World) (S0 : Nat → Prop), W P ⟨w0, S0, n, G0 S0⟩ c (fun e st => match e with | .normal | .ret => Ns P rs st rv res | _ => False) (PP args))
  (hb : fn.body = some c := by exact rfl) (hn : fn.ntmps = n := by exact rfl) (hrs : fn.results.toList = rs := by exact rfl) (hl : args.length ≤ n := by exact FJ rfl) (hn9 : n ≤ 90000 := by exact FJ rfl) (hpub : args.all K9 = true := by exact rfl) : Ak P f args rv res :=
 Jx hf hb hn hrs hl hn9 hpub h
theorem tm {st : St} {t : Nat} {x : E} (h : st.env t = some (.e x) := by exact rfl) : QH P st [.tmp t] [x] := ⟨.tmp _ _ h, trivial⟩
end Go.Lift
namespace Go.Lift
open Go.RowKit Go.Shelf
def Qg {α : Type} (c : α → α → Int) (x y : α) : Prop := c x y < 0 ∧ 0 < c y x
structure Nu {α : Type} (c : α → α → Int) (M : α → Prop) : Prop where
 self : ∀ x, M x → c x x = 0
 tri : ∀ x y, M x → M y → x = y ∨ Qg c x y ∨ Qg c y x
 trans : ∀ x y z, M x → M y → M z → Qg c x y → Qg c y z → Qg c x z
namespace Nu
variable {α : Type} {c : α → α → Int} {M : α → Prop}
theorem lt (O : Nu c M) {x y : α} (hx : M x) (hy : M y) : c x y < 0 ↔ Qg c x y := by
 refine ⟨fun h => ?_, fun h => h.1⟩
 rcases O.tri x y hx hy with e | e | e
 ·subst e; have := O.self x hx; omega
 ·exact e
 ·have := e.2; omega
end Nu
section
variable {P : Program} {ρ : Ren} {α : Type}
end
end Go.Lift
namespace Go.Lift
open Go.RowKit Go.Shelf
section
variable {α : Type}
end
end Go.Lift
namespace Go.Lift
open Option renaming bind_some → oS
open Go.RowKit Go.ChangeShapes Go.WideShapes
variable {P : Program} {X : EC} {ops : Array Oper}
section run
variable {dr : Bool} {Q : St → Prop} {r i : Nat} {st : St} {log : List (Nat × A3)} {o : Oper} {gs : List (Operand × D)}
theorem Bw {xt : TypeId} (x y : Operand) (a b : ByteArray) (h : a.size + b.size ≤ 9223372036854775807) : CV P .add xt x y (.string a) (.string b) (.string (a ++ b)) := fun w => by
 have := run_string_add_sum (P := P) (w := w) a b h
 simp [binOp_string_add, eqGuard, this]
theorem Hz {xt : TypeId} (x y : Operand) (a b : ByteArray) : CV P .eql xt x y (.string a) (.string b) (.bool (a.toList == b.toList)) := fun w => by simp [eqGuard, binOp_string_eql]
end run
theorem PE {W : World} (h : ∀ x, x ∈ OO → ∀ g, P.globalNamed x.1 = some g → Lib.TabIs P W x.1 x.2.1 x.2.2) : N8 P W (LK W) := fun x hx g hg => by
 have h1 := h x hx g hg
 refine ⟨?_, h1⟩
 unfold Lib.TabIs World.var? at h1
 rw [hg, oS] at h1
 show g < W.heap.size
 split at h1
 ·rename_i e; exact (zE1.1 e).1
 ·cases h1
theorem Lp {H : Type} {enc : TypeId × Value → H} {C : Checked} {os : Os} {f : FuncId} {fn : Func} {s : ChangeSpec} {conds : List PathCond} {tb : TypeId} {d : Nat} {laid : List (String × DataW Unit)}
  (own : ownKnob C.prog.godebug = none) (started : os.Started) (noInit : C.prog.inits.idxOf? f = none) (hfn : C.prog.funcs[f]? = some fn)
  (witness : ∃ (w : World) (tape : Tape) (i : Input), w.os = os ∧ (w.forCall tape i).Shaped C.prog ∧ i.vars = [] ∧ Input.okWide C.prog (w.forCall tape i) .any w.heap.size f i ∧
   ((s.pre enc C.prog fn conds false (w.forCall tape i).memory i.args ∧ laidMetH C.prog laid (w.forCall tape i).memory) ∧ sizedMet enc C.prog fn (OpenSpec.ofChange s) false (w.forCall tape i).memory i.args) ∧ ({} : Assume).holds C.prog (lone (Frame.enter C.prog f i.args .normal) [] (w.forCall tape i)))
  (hv : s.vars = []) (hs : ∀ ds : List (DataW H), ds.length = fn.params.toList.length → s.fn H (ds ++ []) = { results := [.lit (.bool true)], args := ds })
  (hres : fn.resultTypes = #[tb]) (htb : C.prog.underlying tb = some .bool) (hl : laidOutB C.prog = true)
  (hread : (fn.params.toList.all fun t => C.prog.readableRec t && decide (t < C.prog.types.size)) = true) (hplain : (fn.params.toList.all (FC C.prog d)) = true)
  (law : ∀ Ds, Gf C.prog d fn.params.toList Ds → Ak C.prog f Ds [] (.e (.one (.pure (.val (.bool true))))))
  (hp : (laid.all fun x => x.2.handleName?.isNone) = true) (hgk : ∀ W, laidMet C.prog laid W → N8 C.prog W (LK W)) :
  ReturnsInHanded {} C os f .any (fun w args => (s.pre enc C.prog fn conds false w args ∧ laidMetH C.prog laid w) ∧ sizedMet enc C.prog fn (OpenSpec.ofChange s) false w args) (s.post enc C.prog fn false true false false) := by
 refine returnsInHanded_of_change_and (X := fun w _ => laidMetH C.prog laid w) (fun _ _ _ hh h => by rw [MakeChecks.laidMetH_plain _ _ _ hp] at h ⊢; exact h.of_heap hh) own started noInit hfn witness ?_
 intro W base args ds gs before hval hW _ _ hL _
 rw [MakeChecks.laidMetH_plain _ _ _ hp] at hL
 have hW' := hW
 obtain ⟨p, q, hA, hV, rfl, _, _⟩ := hW
 rw [hv] at hV
 obtain ⟨rfl, rfl⟩ := trodVars_none hV
 obtain ⟨Ds, h1, h2, h3, h4⟩ := Mp hplain (fun j t v hj hvj => hval j t v (by simpa using hj) (by simpa using hvj)) hA
 have hlt : ∀ x ∈ p, x.block < W.heap.size := fun x hx => hW'.lt x (by simp [hx])
 refine (law Ds h1 W (LK W) args (fun β h => h) (hgk W hL) (by simpa using h2) ?_).mono ?_
 ·intro j x hj
  obtain ⟨v, g1, g2⟩ := h4 j x hj
  have : Al args j = v := by unfold Al; rw [show args[j]? = some v from by simpa using g1]; rfl
  rw [this]; exact g2
 ·rintro e W' ⟨v, G', rfl, hb, _, _, hr, _⟩
  have hvb : v = .bool true := by
   have h5 : Bo W' G'.S v (.val (.bool true)) := hr
   cases h5; rfl
  subst hvb
  refine ⟨_, rfl, ds, [], p ++ [], [], p, [], hW', ?_, ?_, ?_, hb.frame _, fun h => by cases h⟩
  ·rw [hs ds h3, hres]
   exact trodAll_mk1 (shut_bool htb true)
  ·rw [hs ds h3]
   exact Hn hl hb.toBelow hread hA hlt
  ·rw [hs ds h3, hv]
   rfl
end Go.Lift
namespace Go.Lift
open Go.RowKit Go.Shelf
def Ij (n : Int) : Option ByteArray := if -9223372036854775808 ≤ n ∧ n ≤ 9223372036854775807 then some ⟨(Lib.itoa n).toArray⟩ else none
theorem PX {P : Program} {ρ : Ren} (L : Go.Proofs.LaysM.n171 P ρ) {g : Nat} (hg : P.globalNamed "internal/strconv.uint64pow10" = some g) {n : Int} {r : ByteArray} (h : Ij n = some r) :
  Ak P (ρ.f 171) [.e (.one (.pure (.val (.int .i64 n))))] [] (.e (.one (.pure (.val (.string r))))) := by
 intro w S vs hS hgk hlen hrd
 have h0 : Bo w S (Al vs 0) (.val (.int .i64 n)) := hrd 0 _ rfl
 have hv : Al vs 0 = .int .i64 n := BB h0
 have hvs : vs = #[.int .i64 n] := by
  have h2 : vs.size = 1 := hlen
  apply Array.ext (by simp [h2])
  intro i h1 _
  match i, h1 with
  | 0, h1 => rw [← hv]; simp [Al, h1]
  | i + 1, h1 => omega
 unfold Ij at h
 split at h
 ·rename_i hb
  cases h
  have ht : Lib.TabIs P w "internal/strconv.uint64pow10" .u64 Lib.pow10Tab := (hgk ("internal/strconv.uint64pow10", .u64, OR) (by simp [OO]) g hg).2
  rw [hvs]
  refine (Go.Proofs.Any.strconv_Itoa L n hb.1 hb.2 w ht).mono ?_
  rintro e w' ⟨rfl, k, os, rfl⟩
  refine ⟨_, G0 S, rfl, ⟨⟨rfl, rfl, rfl, by simp [Go.Sort.grow], fun i hi => ?_⟩, .of (by show w.drawn ≤ w.drawn + k; omega)⟩, fun _ h => h, fun _ h => .inl h, .val _ rfl, fun i x hi => by simp at hi, fun i β hi => by simp at hi, fun i l β hi => by simp at hi⟩
  show (w.heap ++ os)[i]? = _
  rw [zE7, if_pos hi]
 ·cases h
end Go.Lift
namespace Go.Lift
open Go.RowKit
variable {P : Program} {X : EC}
end Go.Lift
namespace Go.Lift
open Go.RowKit
variable {P : Program} {X : EC} {ops : Array Oper}
section run
variable {dr : Bool} {Q : St → Prop} {r i : Nat} {st : St} {log : List (Nat × A3)} {o : Oper} {gs : List (Operand × D)}
end run
end Go.Lift
namespace Go.Lift
open Go.RowKit Go.Shelf
end Go.Lift
namespace Go.Lift
open Go.RowKit Go.Shelf
section
variable {P : Program} {ρ : Ren} {α : Type}
end
end Go.Lift
namespace Go.Lift
open Go.RowKit Go.Shelf
variable {P : Program} {X : EC} {ops : Array Oper}
theorem J5 {st : St} (s : Nat) (d0 d : D) (hs : st.env s = some d0) (hn : d.names = []) (h : ∀ w G v, Ea P w G v d0 → Ea P w G v d) : Dx P X st (St.put st (some s) (some d)) := by
 rintro a w ⟨G, hh⟩
 refine ⟨G, { hh with env := ?_, live := ?_, blk := hh.blk, at_ok := hh.at_ok, at_inj := hh.at_inj, liveB := hh.liveB, nlt := hh.nlt, lent := hh.lent }⟩
 ·intro t d' ht
  simp only [St.put] at ht
  split at ht
  ·rename_i e; cases ht; rw [e]
   exact h w G _ (hh.env s _ hs)
  ·exact hh.env t d' ht
 ·intro t d' ht b hb
  simp only [St.put] at ht
  split at ht
  ·cases ht; rw [hn] at hb; cases hb
  ·exact hh.live t d' ht b hb
theorem Km {st : St} (s : Nat) (ts : List T) (hs : st.env s = some (.e (.one (.rop ts)))) : Dx P X st (St.put st (some s) (some (one (.rp (some ts))))) :=
 J5 s _ _ hs rfl fun w G v h => by
  obtain ⟨β, off, arr, el, fz, rfl, h1, h2, h3, h4⟩ : CI P w G v (.rop ts) := h
  exact Bo.rp β off arr el fz ts h1 h2 h3 h4
theorem NG {st : St} (s : Nat) (q : Option (List T)) (ts : List T) (hs : st.env s = some (one (.rp q))) (hq : q = some ts) : Dx P X st (St.put st (some s) (some (.e (.one (.rop ts))))) :=
 J5 s _ _ hs rfl fun w G v h => by
  subst hq
  have h : Bo w G.S v (.rp (some ts)) := h
  cases h with
  | rp β off arr el fz _ h1 h2 h3 h4 => exact (⟨β, off, arr, el, fz, rfl, h1, h2, h3, h4⟩ : CI P w G _ (.rop ts))
theorem Lg {P : Program} {ρ : Ren} (L : Go.Proofs.LaysM.n173 P ρ) {g : Nat} (hg : P.globalNamed "internal/strconv.uint64pow10" = some g) {n : Int} {r : ByteArray} (h : Ij n = some r) :
  Ak P (ρ.f 173) [.e (.one (.pure (.val (.int .i64 n)))), .e (.one (.pure (.val (.int .i64 10))))] [] (.e (.one (.pure (.val (.string r))))) := by
 intro w S vs hS hgk hlen hrd
 have h0 : Bo w S (Al vs 0) (.val (.int .i64 n)) := hrd 0 _ rfl
 have h1 : Bo w S (Al vs 1) (.val (.int .i64 10)) := hrd 1 _ rfl
 have hv : Al vs 0 = .int .i64 n := BB h0
 have hv1 : Al vs 1 = .int .i64 10 := BB h1
 have hvs : vs = #[.int .i64 n, .int .i64 10] := by
  have h2 : vs.size = 2 := hlen
  apply Array.ext (by simp [h2])
  intro i h1 _
  match i, h1 with
  | 0, h1 => rw [← hv]; simp [Al, h1]
  | 1, h1 => rw [← hv1]; simp [Al, h1]
  | i + 2, h1 => omega
 unfold Ij at h
 split at h
 ·rename_i hb
  cases h
  have ht : Lib.TabIs P w "internal/strconv.uint64pow10" .u64 Lib.pow10Tab := (hgk ("internal/strconv.uint64pow10", .u64, OR) (by simp [OO]) g hg).2
  rw [hvs]
  refine (Go.Proofs.Any.strconv_FormatInt_10 L n hb.1 hb.2 w ht).mono ?_
  rintro e w' ⟨rfl, k, os, rfl⟩
  refine ⟨_, G0 S, rfl, ⟨⟨rfl, rfl, rfl, by simp [Go.Sort.grow], fun i hi => ?_⟩, .of (by show w.drawn ≤ w.drawn + k; omega)⟩, fun _ h => h, fun _ h => .inl h, .val _ rfl, fun i x hi => by simp at hi, fun i β hi => by simp at hi, fun i l β hi => by simp at hi⟩
  show (w.heap ++ os)[i]? = _
  rw [zE7, if_pos hi]
 ·cases h
end Go.Lift
namespace Go.Lift
open Option renaming bind_some → oS
open Go.RowKit Go.Shelf
variable {P : Program} {X : EC} {ops : Array Oper} {dr : Bool} {Q : St → Prop} {r i : Nat} {st : St} {log : List (Nat × A3)} {gs : List (Operand × D)}
theorem Le {x : Operand} {s : Nat} {ts : List T} (hat : At st.env ops i X.n (.nilCheck x) s gs) (hx : opd st.env x = some (.e (.one (.rop ts))))
  (next : AE P X ops dr Q r (i + 1) (A3.upd ⟨gs ++ [(x, .e (.one (.rop ts)))], [], some s, some (.e (.one (.rop ts))), [], []⟩ st) ((i, ⟨gs ++ [(x, .e (.one (.rop ts)))], [], some s, some (.e (.one (.rop ts))), [], []⟩) :: log)) : AE P X ops dr Q (r + 1) i st log := by
 obtain ⟨o, ho, hop, hd, hn, hg, hgp⟩ := hat.out
 refine AE.step next ⟨Af.2 ⟨hgp, hx, trivial⟩, trivial, trivial⟩ (LR.value ho hg rfl hd.symm (BG hd hn) ?_)
 intro G st a w hs hpre
 obtain ⟨hx, _⟩ := (Af.1 hpre.r).2
 obtain ⟨β, k, arr, el, fz, hv, h1⟩ : CI P w G (a.eval x) (.rop ts) := hs.opd hx
 refine ⟨.pointer (some ⟨β, k, none⟩), w, G, ?_, hs, ?_⟩
 ·simp only [execOp, hop, hv]; rfl
 ·rintro d ⟨⟩
  exact ⟨⟨β, k, arr, el, fz, rfl, h1⟩, fun b hb => by cases hb⟩
def Nj (P : Program) (t n el : Nat) : Bool := match P.underlying t with | some (.array m e) => m == n && e == el | _ => false
theorem LU {t n el : Nat} (h : Nj P t n el = true) : P.underlying t = some (.array n el) := by
 unfold Nj at h
 split at h
 ·rename_i m e hu
  simp only [uT, beq_iff_eq] at h
  rw [hu, h.1, h.2]
 ·cases h
theorem NH {t n el e : Nat} {s : Nat} {z : Value} {zs : List Value} {cells : List C} {parts : Array (Nat × Operand)} (ps : List (Nat × Operand × E)) (hat : At st.env ops i X.n (.build t parts) s gs) (hps : parts = (ps.map fun p => (p.1, p.2.1)).toArray)
  (hx : Cw st.env (DS ps)) (hz : B3 P t = some z) (hzs : z.cells.toList = zs) (h1 : zs.all DP = true) (ha : Nj P t n el = true) (he : EI P el e = true) (hf : Hj (fun i => some (i * e, e)) (zs.map fun v => C.pure (T.of v)) (ps.map fun p => (p.1, p.2.2)) = some cells)
  (next : AE P X ops dr Q r (i + 1) (A3.upd ⟨gs ++ DS ps, [], some s, some (.e (.agg cells)), [], []⟩ st) ((i, ⟨gs ++ DS ps, [], some s, some (.e (.agg cells)), [], []⟩) :: log)) : AE P X ops dr Q (r + 1) i st log := by
 obtain ⟨o, ho, hop, hd, hn, hg, hgp⟩ := hat.out
 refine AE.step next ⟨Af.2 ⟨hgp, hx⟩, trivial, trivial⟩ (LR.value ho hg rfl hd.symm (BG hd hn) ?_)
 intro G st a w hs hpre
 have hx := (Af.1 hpre.r).2
 subst hzs
 have hpr := Gg hs hx
 obtain ⟨arr', r1, r2, r3⟩ := Ia (P := P) (w := w) (G := G) (fun i => some (i * e, e)) (ps.map fun p => (p.1, p.2.2)) (ps.map fun p => (p.1, a.eval p.2.1)) _ cells z.cells (by simp) (fun j c hj => IM h1 j c hj) (by simp) (fun j p v hp hv => ⟨(hpr j p v hp hv).1, (hpr j p v hp hv).2.1⟩) hf
 refine ⟨.agg arr', w, G, ?_, hs, ?_⟩
 ·simp only [execOp, hop, hps, GH]
  refine Ab (run_build w t _ arr' ?_) rfl
  unfold B3 at hz
  cases hit : P.info? t with
  | none => rw [hit] at hz; cases hz
  | some it =>
   rw [hit] at hz
   simp only [oS] at hz
   unfold EI at he
   cases hie : P.info? el with
   | none => rw [hie] at he; cases he
   | some ie =>
    rw [hie] at he
    have he' : ie.size = e := by simpa using he
    unfold Program.built
    rw [hit, LU ha]
    simp only [hz, hie, he']
    simpa using r1
 ·rintro d ⟨⟩
  refine ⟨⟨arr', rfl, r2, r3⟩, fun b hb => ?_⟩
  rcases GI _ hf hb with h | ⟨p, h2, h3⟩
  ·rw [H5] at h; cases h
  ·obtain ⟨j, hj⟩ := vF.1 h2
   have hlt := Ar hj
   simp only [vG] at hlt
   exact (hpr j p ((ps.map fun p => (p.1, a.eval p.2.1))[j]'(by simpa using hlt)) hj (by simp [hlt])).2.2 b h3
theorem Nf {x y : Operand} {s n el t : Nat} {ts : List T} {u : T} {k : IntKind} {m : Int} (hat : At st.env ops i X.n (.indexAddr t x y) s gs)
  (hx : opd st.env x = some (.e (.one (.rop ts)))) (hy : opd st.env y = some (vD (.int k m))) (ht : Nj P t n el = true) (hz : EI P el 1 = true) (hl : ts.length = n) (h0 : 0 ≤ m) (hu : ts[m.toNat]? = some u)
  (next : AE P X ops dr Q r (i + 1) (A3.upd ⟨gs ++ [(x, .e (.one (.rop ts))), (y, vD (.int k m))], [], some s, some (.e (.one (.rop [u]))), [], []⟩ st) ((i, ⟨gs ++ [(x, .e (.one (.rop ts))), (y, vD (.int k m))], [], some s, some (.e (.one (.rop [u]))), [], []⟩) :: log)) : AE P X ops dr Q (r + 1) i st log := by
 obtain ⟨o, ho, hop, hd, hn, hg, hgp⟩ := hat.out
 refine AE.step next ⟨Af.2 ⟨hgp, hx, hy, trivial⟩, trivial, trivial⟩ (LR.value ho hg rfl hd.symm (BG hd hn) ?_)
 intro G st a w hs hpre
 obtain ⟨hx, hy, _⟩ := (Af.1 hpre.r).2
 obtain ⟨β, off, arr, el', fz, hv, h1, h2, h3, h4⟩ : CI P w G (a.eval x) (.rop ts) := hs.opd hx
 have hY : a.eval y = .int k m := BB (hs.opd hy : Bo w G.S (a.eval y) (.val _))
 have hlt := Ar hu
 refine ⟨.pointer (some ⟨β, off + m.toNat * 1, none⟩), w, G, ?_, hs, ?_⟩
 ·simp only [execOp, hop, hv, hY]
  refine Ab (a := .pointer (some ⟨β, off + m.toNat * 1, none⟩)) (w1 := w) ?_ rfl
  unfold Instr.indexAt
  refine Ab (a := (k, m)) (w1 := w) rfl ?_
  refine Ab (As (LU ht) w) ?_
  have hb : 0 ≤ m ∧ m < (n : Int) := ⟨h0, by omega⟩
  refine Ab (a := ⟨β, off, none⟩) (w1 := w) rfl ?_
  refine Ab (a := ((some ⟨β, off, none⟩ : Option Addr), n, el)) (w1 := w) rfl ?_
  refine Ab (As (LU ht) w) ?_
  simp only [hb, and_self, if_true]
  refine Ab (Cp hz w) ?_
  rw [Addr.add_mk]; rfl
 ·rintro d ⟨⟩
  refine ⟨⟨β, off + m.toNat * 1, arr, el', fz, rfl, h1, h2, by simp; omega, fun j u' hj => ?_⟩, fun b hb => by cases hb⟩
  cases j with
  | zero =>
   cases hj
   have := h4 _ u hu
   simpa using this
  | succ j => simp at hj
theorem KH {t : Nat} (h : HP P t = true) : P.underlying t = some .string := by
 unfold HP at h
 split at h
 ·assumption
 ·cases h
theorem GF {x : Operand} {b : ByteArray} {s t : Nat} (hat : At st.env ops i X.n (.call ⟨.builtin .len, #[x], #[t]⟩) s gs)
  (hx : opd st.env x = some (vD (.string b))) (ht : HP P t = true)
  (next : AE P X ops dr Q r (i + 1) (A3.upd ⟨gs ++ [(x, vD (.string b))], [], some s, some (vD (.int .i64 (b.size : Int))), [], []⟩ st) ((i, ⟨gs ++ [(x, vD (.string b))], [], some s, some (vD (.int .i64 (b.size : Int))), [], []⟩) :: log)) : AE P X ops dr Q (r + 1) i st log := by
 obtain ⟨o, ho, hop, hd, hn, hg, hgp⟩ := hat.out
 refine AE.step next ⟨Af.2 ⟨hgp, hx, trivial⟩, trivial, trivial⟩ (LR.value ho hg rfl hd.symm (BG hd hn) ?_)
 intro G st a w hs hpre
 obtain ⟨hx, _⟩ := (Af.1 hpre.r).2
 have hX : a.eval x = .string b := BB (hs.opd hx : Bo w G.S (a.eval x) (.val _))
 refine ⟨.int .i64 b.size, w, G, ?_, hs, ?_⟩
 ·simp only [execOp, hop]
  refine EB fun cs => ?_
  simp only [zC8, vI, zE2, builtin, hX]
  refine Ab (a := .int .i64 b.size) (w1 := w) ?_ rfl
  unfold Builtin.len_
  refine Ab (As (KH ht) w) ?_
  rfl
 ·rintro d ⟨⟩
  exact ⟨.val _ rfl, fun b hb => by cases hb⟩
theorem H6 {G : Gh} {st : St} {a : Act} {w : World} (hs : Br P X G st a w) {lo hi : Option Operand} {l h len : Nat} {rl rh : List (Operand × D)} (hlo : LA lo 0 l rl) (hhi : LA hi len h rh) (h1 : Cw st.env rl) (h2 : Cw st.env rh) (hlh : l ≤ h) (hhc : h ≤ len) :
  (Instr.sliceBounds false len len (lo.map a.eval) (hi.map a.eval) none).run P w = .ok (l, h, len) w := by
 unfold Instr.sliceBounds
 refine Ab (a := len) (w1 := w) rfl ?_
 have low : ∀ (h : Nat), l ≤ h → ((match lo.map a.eval with
      | some v => do
       let l ← Instr.sliceBound v h (if (none : Option Value).isSome = true then BoundsCode.slice3C else BoundsCode.sliceB)
       pure (l, h, len)
      | none => do
       let l ← pure 0
       pure (l, h, len) : Sem (Nat × Nat × Nat))).run P w = .ok (l, h, len) w := fun h hlh => by
  cases hlo with
  | none => rfl
  | some y d k v hv =>
   have : a.eval y = .int k v := BB (hs.opd h1.1 : Bo w G.S (a.eval y) (.val _))
   simp only [zA1, this]
   exact Ab (DO hv hlh w) rfl
 cases hhi with
 | none => exact Ab (w1 := w) rfl (low _ hlh)
 | some y d k v hv =>
  have : a.eval y = .int k v := BB (hs.opd h2.1 : Bo w G.S (a.eval y) (.val _))
  simp only [zA1, this]
  exact Ab (DO hv hhc w) (low _ hlh)
theorem IZ {x : Operand} {t s l h : Nat} {lo hi : Option Operand} {rl rh : List (Operand × D)} {b : ByteArray} (hat : At st.env ops i X.n (.slice t x lo hi none) s gs)
  (hx : opd st.env x = some (vD (.string b))) (ht : HP P t = true) (hlo : LA lo 0 l rl) (hhi : LA hi b.size h rh) (h1 : Cw st.env rl) (h2 : Cw st.env rh) (hlh : l ≤ h) (hhl : h ≤ b.size)
  (next : AE P X ops dr Q r (i + 1) (A3.upd ⟨gs ++ ((x, vD (.string b)) :: (rl ++ rh)), [], some s, some (vD (.string (b.extract l h))), [], []⟩ st) ((i, ⟨gs ++ ((x, vD (.string b)) :: (rl ++ rh)), [], some s, some (vD (.string (b.extract l h))), [], []⟩) :: log)) : AE P X ops dr Q (r + 1) i st log := by
 obtain ⟨o, ho, hop, hd, hn, hg, hgp⟩ := hat.out
 refine AE.step next ⟨Af.2 ⟨hgp, hx, Af.2 ⟨h1, h2⟩⟩, trivial, trivial⟩ (LR.value ho hg rfl hd.symm (BG hd hn) ?_)
 intro G st a w hs hpre
 obtain ⟨hx, h12⟩ := (Af.1 hpre.r).2
 obtain ⟨h1, h2⟩ := Af.1 h12
 have hX : a.eval x = .string b := BB (hs.opd hx : Bo w G.S (a.eval x) (.val _))
 refine ⟨.string (b.extract l h), w, G, ?_, hs, ?_⟩
 ·simp only [execOp, hop, hX]
  refine Ab (a := .string (b.extract l h)) (w1 := w) ?_ rfl
  unfold Instr.sliceAt
  refine Ab (As (KH ht) w) ?_
  unfold Instr.slice
  refine Ab (As (KH ht) w) ?_
  refine Ab (H6 hs hlo hhi h1 h2 hlh hhl) ?_
  rfl
 ·rintro d ⟨⟩
  exact ⟨.val _ rfl, fun b hb => by cases hb⟩
theorem KR {xt yt : TypeId} (k : IntKind) (n : Int) (hs : (P.underlying xt).isSome = true) (hd : HP P yt = true) : Kf P xt yt (.int k n) (.string (Utf8.encode n)) := fun w => run_convert_int_string w xt yt k n hs (KH hd)
end Go.Lift
namespace Go.Lift
open Go.RowKit Go.Proofs
theorem Mk {w : World} {b : Nat} {o : Obj} (h : w.heap[b]? = some o) : b < w.heap.size := (zE1.1 h).1
theorem NC {T e : TypeId} {B b : Nat} {bs : List Value} {w w' : World} (h : Lib.IsBuilder T e B b bs w) (hb : Below w.heap.size w w') : Lib.IsBuilder T e B b bs w' := by
 have key : ∀ p, Lib.BuilderAt T e B b p bs w → Lib.BuilderAt T e B b p bs w' := by
  rintro p ⟨h1, v, h2, ⟨h3, h4⟩, h5⟩
  refine ⟨h1, v, by rw [hb.block b (Mk h2)]; exact h2, ⟨h3, ?_⟩, h5⟩
  rcases h4 with h4 | ⟨g, cap, cur, k1, k2, k3, k4⟩
  ·exact .inl h4
  ·exact .inr ⟨g, cap, cur, k1, k2, by rw [hb.block g (Mk k3)]; exact k3, k4⟩
 exact h.imp (key _) (key _)
end Go.Lift
namespace Go.Lift
def Aq (n : Int) : List T := [.val (.int .i64 n)]
def Dk (n : Int) : List T := [.val (.int .u8 n)]
abbrev Ef (n : Int) : T := .val (.int .i64 n)
abbrev tB (b : Bool) : T := .val (.bool b)
def eB (b : Bool) : List T := [.val (.bool b)]
def eS (s : ByteArray) : List T := [.val (.string s)]
def Lz {α : Type} (f : α → List T) (xs : List α) : List T := [.sl (xs.map f)]
theorem Nr : Qi Aq := ⟨by intro x y h; simpa [Aq] using h⟩
theorem Sc : Qi eB := ⟨by intro x y h; simpa [eB] using h⟩
theorem QW {α : Type} {f : α → List T} (h : Qi f) : Qi (Lz f) := ⟨by intro x y hx; simp only [Lz, List.cons.injEq, T.sl.injEq, and_true] at hx; exact Ma h.inj _ _ hx⟩
structure Aa where
 fh : Int
 fd : Int
 fA : Int
 fw : Int
 fB : Int
 fk : Int
 fr : Int
 fC : Int
 fy : Int
 fp : Int
 fE : Int
def Ay (x : Aa) : List T := [.val (.int .i64 x.fh), .val (.int .i64 x.fd), .val (.int .i64 x.fA), .val (.int .i64 x.fw), .val (.int .i64 x.fB), .val (.int .i64 x.fk), .val (.int .i64 x.fr), .val (.int .i64 x.fC), .val (.int .i64 x.fy), .val (.int .i64 x.fp), .val (.int .i64 x.fE)]
structure Au where
 fd : Int
 fk : Int
 fp : Int
def AK (x : Au) : List T := [.val (.int .i64 x.fd), .val (.int .i64 x.fk), .val (.int .i64 x.fp)]
theorem LJ : Qi AK := ⟨by
 rintro ⟨a1, a2, a3⟩ ⟨b1, b2, b3⟩ h
 simp only [AK, List.cons.injEq, T.val.injEq, Value.int.injEq, and_true, true_and] at h
 obtain ⟨h1, h2, h3⟩ := h
 subst h1
 subst h2
 subst h3
 rfl⟩
structure AU where
 fd : Int
 fF : Int
 fH : Int
 fJ : Bool
 fI : List (List Bool)
 fG : List (List Bool)
def A5 (x : AU) : List T := [.val (.int .i64 x.fd), .val (.int .i64 x.fF), .val (.int .i64 x.fH), .val (.bool x.fJ), .sl (x.fI.map (Lz eB)), .sl (x.fG.map (Lz eB))]
structure Ad where
 fi : List Int
 fj : List Int
 fm : List Int
 fg : List AU
structure Aj where
 fe : List Int
 fc : List Int
 ff : List Int
def Gm (x : Aj) : List T := [.sl (x.fe.map Aq), .sl (x.fc.map Aq), .sl (x.ff.map Dk)]
structure Ae where
 fa : Ad
 fo : List Au
 fh : Int
 fq : Int
 fb : Aj
def C9 (x : Ae) : List T := [.sl (x.fa.fi.map Aq), .sl (x.fa.fj.map Aq), .sl (x.fa.fm.map Aq), .sl (x.fa.fg.map A5), .sl (x.fo.map AK), .val (.int .i64 x.fh), .val (.int .i64 x.fq), .sl (x.fb.fe.map Aq), .sl (x.fb.fc.map Aq), .sl (x.fb.ff.map Dk)]
structure AX where
 ft : Int
 fu : Int
 fv : Bool
 fD : List (Int × Int)
open IntKind renaming wrap → wI
def Cx (_ : Nat) (p0 : Int) (p1 : Int) : Option Bool :=
 Bt (fun (v1 : Bool) =>
  some v1)
 fun j1 =>
 AF ((decide (0 ≤ p0)))
  (j1 (decide (p0 < p1)))
  (j1 false)
def Fv (_ : Nat) (p0 : Int) (p1 : Bool) : Option Bool :=
 Bt (fun (v1 : Bool) =>
  some v1)
 fun j1 =>
 AF ((p0 == 1))
  (j1 true)
  (AF ((p0 == 2))
   (j1 true)
   (AF ((p0 == 3))
    (j1 (!p1))
    (AF ((p0 == 4))
     (j1 (!p1))
     (j1 false))))
def CB (_ : Nat) (p0 : List Bool) (p1 : Int) : Option Bool :=
 some (((p0.length : Int) != p1))
def A9 (N : Nat) (p0 : List (List Bool)) (p1 : (List Bool) → Option Bool) (j1 : Unit → Option Int) : Nat → Int → Option Int
 | 0, _ => none
 | n1 + 1, v1 =>
  AF ((decide (v1 < (p0.length : Int))))
   ((BU p0 v1).bind fun v4 =>
   (p1 v4).bind fun v5 =>
   AF v5
    (some v1)
    (A9 N p0 p1 j1 n1 (wI .i64 (v1 + 1))))
   (j1 ())
def BZ (N : Nat) (p0 : List (List Bool)) (p1 : (List Bool) → Option Bool) : Option Int :=
 A9 N p0 p1 (fun (_ : Unit) =>
  some ((-1))) N 0
def BF (N : Nat) (p0 : List (List Bool)) (p1 : (List Bool) → Option Bool) : Option Bool :=
 (BZ N p0 p1).bind fun v1 =>
 some ((decide (0 ≤ v1)))
def Dq (N : Nat) (p0 : List (List Bool)) (p1 : Int) (p2 : Int) : Option Bool :=
 Bt (fun (v1 : Bool) =>
  some v1)
 fun j1 =>
 AF (((p0.length : Int) == p1))
  ((BF N p0 ((fun (x : List Bool) => CB N x p2))).bind fun v3 =>
  j1 (!v3))
  (j1 false)
def CU (N : Nat) (p1 : AU) (j19 : Unit → Option Int) : Nat → Int → Option Int
 | 0, _ => none
 | n19 + 1, v19 =>
  AF ((decide (v19 < (p1.fG.length : Int))))
   ((BU p1.fG v19).bind fun v22 =>
   (BU v22 v19).bind fun v23 =>
   AF ((!v23))
    (some 1)
    (CU N p1 j19 n19 (wI .i64 (v19 + 1))))
   (j19 ())
def Fa (N : Nat) (p0 : Ad) (p1 : AU) : Option Int :=
 (Fv N p1.fd p1.fJ).bind fun v1 =>
 AF ((!v1))
  (some 1)
  (Bt (fun (v3 : Bool) =>
   AF v3
    (some 4)
    ((BU p0.fi p1.fF).bind fun v8 =>
    Bt (fun (v9 : Bool) =>
     AF v9
      (some 6)
      (CU N p1 (fun (_ : Unit) =>
       some 0) N 0))
    fun j9 =>
    (BU p0.fi p1.fH).bind fun v10 =>
    (Dq N p1.fI v8 v10).bind fun v11 =>
    AF ((!v11))
     (j9 true)
     (AF ((p1.fd == 4))
      ((Dq N p1.fG v8 v8).bind fun v14 =>
      AF ((!v14))
       (j9 true)
       (AF ((!((p1.fd == 4))))
        (j9 (decide (0 < (p1.fG.length : Int))))
        (j9 false)))
      (AF ((!((p1.fd == 4))))
       (j9 (decide (0 < (p1.fG.length : Int))))
       (j9 false)))))
  fun j3 =>
  (Cx N p1.fF ((p0.fi.length : Int))).bind fun v4 =>
  AF ((!v4))
   (j3 true)
   ((Cx N p1.fH ((p0.fi.length : Int))).bind fun v6 =>
   j3 (!v6)))
def BT (N : Nat) (p0 : Ad) (j7 : Unit → Option Int) : Nat → Int → Option Int
 | 0, _ => none
 | n7 + 1, v7 =>
  AF ((decide (v7 < (p0.fi.length : Int))))
   ((BU p0.fi v7).bind fun v10 =>
   Bt (fun (v11 : Bool) =>
    AF v11
     (some 7)
     (BT N p0 j7 n7 (wI .i64 (v7 + 1))))
   fun j11 =>
   AF ((decide (v10 < 1)))
    (j11 true)
    (AF ((decide (6 < v10)))
     (j11 true)
     ((BU p0.fj v7).bind fun v14 =>
     (Cx N v14 v10).bind fun v15 =>
     AF ((!v15))
      (j11 true)
      ((BU p0.fm v7).bind fun v17 =>
      (Cx N v17 v10).bind fun v18 =>
      j11 (!v18)))))
   (j7 ())
def BL (N : Nat) (p0 : Ad) (j20 : Unit → Option Int) : Nat → Int → Option Int
 | 0, _ => none
 | n20 + 1, v20 =>
  AF ((decide (v20 < (p0.fg.length : Int))))
   ((BU p0.fg v20).bind fun v23 =>
   (Fa N p0 v23).bind fun v24 =>
   AF ((v24 != 0))
    (some v24)
    (BL N p0 j20 n20 (wI .i64 (v20 + 1))))
   (j20 ())
def Bp (N : Nat) (p0 : Ad) : Option Int :=
 Bt (fun (v1 : Bool) =>
  AF v1
   (some 3)
   (Bt (fun (v4 : Bool) =>
    AF v4
     (some 6)
     (BT N p0 (fun (_ : Unit) =>
      BL N p0 (fun (_ : Unit) =>
       some 0) N 0) N 0))
   fun j4 =>
   AF (((p0.fj.length : Int) != (p0.fi.length : Int)))
    (j4 true)
    (j4 ((p0.fm.length : Int) != (p0.fi.length : Int)))))
 fun j1 =>
 AF ((decide (6 < (p0.fi.length : Int))))
  (j1 true)
  (j1 (decide (12 < (p0.fg.length : Int))))
def Bk (N : Nat) (p0 : List Int) (p1 : Int → Option Bool) (j1 : Unit → Option Int) : Nat → Int → Option Int
 | 0, _ => none
 | n1 + 1, v1 =>
  AF ((decide (v1 < (p0.length : Int))))
   ((BU p0 v1).bind fun v4 =>
   (p1 v4).bind fun v5 =>
   AF v5
    (some v1)
    (Bk N p0 p1 j1 n1 (wI .i64 (v1 + 1))))
   (j1 ())
def Ce (N : Nat) (p0 : List Int) (p1 : Int → Option Bool) : Option Int :=
 Bk N p0 p1 (fun (_ : Unit) =>
  some ((-1))) N 0
def BR (N : Nat) (p0 : List Int) (p1 : Int → Option Bool) : Option Bool :=
 (Ce N p0 p1).bind fun v1 =>
 some ((decide (0 ≤ v1)))
def CZ (_ : Nat) (p0 : Int) : Option Bool :=
 Bt (fun (v1 : Bool) =>
  some v1)
 fun j1 =>
 AF ((decide (p0 < 1)))
  (j1 true)
  (j1 (decide (4 < p0)))
def Ek (N : Nat) (p0 : Ad) (p1 : List Int) : Option Int :=
 AF (((p1.length : Int) != (p0.fi.length : Int)))
  (some 6)
  ((BR N p1 ((fun (x : Int) => CZ N x))).bind fun v2 =>
  AF v2
   (some 7)
   (some 0))
def AR (N : Nat) (p0 : List Au) (p1 : Au → Option Bool) (j1 : Unit → Option Int) : Nat → Int → Option Int
 | 0, _ => none
 | n1 + 1, v1 =>
  AF ((decide (v1 < (p0.length : Int))))
   ((BU p0 v1).bind fun v4 =>
   (p1 v4).bind fun v5 =>
   AF v5
    (some v1)
    (AR N p0 p1 j1 n1 (wI .i64 (v1 + 1))))
   (j1 ())
def Bj (N : Nat) (p0 : List Au) (p1 : Au → Option Bool) : Option Int :=
 AR N p0 p1 (fun (_ : Unit) =>
  some ((-1))) N 0
def A8 (N : Nat) (p0 : List Au) (p1 : Au → Option Bool) : Option Bool :=
 (Bj N p0 p1).bind fun v1 =>
 some ((decide (0 ≤ v1)))
def CD (_ : Nat) (p0 : Au) : Option Bool :=
 some ((p0.fd == 4))
def Bv (_ : Nat) (p0 : List Int) : Option ((List Int)) :=
 (Eu ((([] : List Int)).length + p0.length ≤ Je)).bind fun _ =>
 some ((([] : List Int)) ++ p0)
def Dy (_ : Nat) (p0 : Int) (p1 : Int) : Option (Int × Int) :=
 some ((wI .u32 ((EJ .u64 ((wI .u64 ((wI .u64 p0) * (wI .u64 p1)))) 32))), (wI .u32 ((wI .u64 ((wI .u64 p0) * (wI .u64 p1))))))
def DB (_ : Nat) (p0 : Int) (p1 : Int) : Option (Int × Int) :=
 some ((wI .u64 ((wI .u64 ((wI .u64 ((EJ .u64 p0 32) * (EJ .u64 p1 32))) + (EJ .u64 ((wI .u64 ((wI .u64 ((EJ .u64 p0 32) * (Fi .u64 p1 4294967295))) + (EJ .u64 ((wI .u64 ((Fi .u64 p0 4294967295) * (Fi .u64 p1 4294967295)))) 32)))) 32))) + (EJ .u64 ((wI .u64 ((Fi .u64 ((wI .u64 ((wI .u64 ((EJ .u64 p0 32) * (Fi .u64 p1 4294967295))) + (EJ .u64 ((wI .u64 ((Fi .u64 p0 4294967295) * (Fi .u64 p1 4294967295)))) 32)))) 4294967295) + (wI .u64 ((Fi .u64 p0 4294967295) * (EJ .u64 p1 32)))))) 32))), (wI .u64 (p0 * p1)))
def Es (N : Nat) (p0 : Int) (p1 : Int) : Option (Int × Int) :=
 AF false
  ((Dy N ((wI .u32 p0)) ((wI .u32 p1))).bind fun v2 =>
  some ((wI .u64 v2.1), (wI .u64 v2.2)))
  ((DB N p0 p1).bind fun v3 =>
  some (v3.1, v3.2))
def Bz (N : Nat) (j9 : ((List Int)) → Option ((List Int))) : Nat → ((List Int) × Int) → Option ((List Int))
 | 0, _ => none
 | n9 + 1, v9 =>
  AF ((decide (v9.2 < (v9.1.length : Int))))
   ((Eu ((0 : Int) ≤ v9.2 ∧ (v9.2).toNat ≤ v9.1.length ∧ v9.1.length ≤ v9.1.length)).bind fun _ =>
   (Eu ((0 : Int) ≤ v9.2 ∧ 0 ≤ (v9.2).toNat ∧ (v9.2).toNat ≤ v9.1.length)).bind fun _ =>
   Bz N j9 n9 (Kh v9.1 ((v9.2).toNat) ((((v9.1.drop 0).take ((v9.2).toNat))).take (vT (((v9.1.drop 0).take ((v9.2).toNat))).length ((v9.1.length - (v9.2).toNat)))), (wI .i64 (v9.2 + (((vT (((v9.1.drop 0).take ((v9.2).toNat))).length ((v9.1.length - (v9.2).toNat))) : Nat) : Int)))))
   (j9 v9.1)
def CF (N : Nat) (p0 : List Int) (p1 : Int) : Option ((List Int)) :=
 Bt (fun (_ : Unit) =>
  (Es N ((wI .u64 ((p0.length : Int)))) ((wI .u64 p1))).bind fun v3 =>
  Bt (fun (_ : Unit) =>
   (Eu ((0 : Int) ≤ (wI .i64 v3.2) ∧ (wI .i64 v3.2) ≤ (wI .i64 v3.2) ∧ (wI .i64 v3.2) ≤ (Je : Int))).bind fun _ =>
   Bz N (fun (v10 : (List Int)) =>
    some v10) N (Kh (zA3 ((wI .i64 v3.2)).toNat ((0 : Int))) 0 (p0.take (vT p0.length ((zA3 ((wI .i64 v3.2)).toNat ((0 : Int))).length))), (((vT p0.length ((zA3 ((wI .i64 v3.2)).toNat ((0 : Int))).length)) : Nat) : Int)))
  fun j4 =>
  Bt (fun (v5 : Bool) =>
   AF v5
    (none)
    (j4 ()))
  fun j5 =>
  AF ((decide (0 < v3.1)))
   (j5 true)
   (j5 (decide (9223372036854775807 < v3.2))))
 fun j1 =>
 AF ((decide (p1 < 0)))
  (none)
  (j1 ())
def Ez (_ : Nat) (p0 : AU) : Option Bool :=
 Bt (fun (v1 : Bool) =>
  some v1)
 fun j1 =>
 AF ((p0.fd == 3))
  (j1 true)
  (j1 (p0.fd == 4))
def Du (N : Nat) (p0 : Ad) (j6 : ((List Int)) → Option (Aj × Int)) : Nat → ((List Int) × Int) → Option (Aj × Int)
 | 0, _ => none
 | n6 + 1, v6 =>
  AF ((decide (v6.2 < (p0.fg.length : Int))))
   (Bt (fun (v9 : (List Int)) =>
    Du N p0 j6 n6 (v9, (wI .i64 (v6.2 + 1))))
   fun j9 =>
   (BU p0.fg v6.2).bind fun v10 =>
   (Ez N v10).bind fun v11 =>
   AF v11
    ((BU p0.fj v10.fF).bind fun v13 =>
    (Eu (0 ≤ v13)).bind fun _ =>
    (BU v6.1 v6.2).bind fun _ =>
    j9 (v6.1.set ((v6.2).toNat) ((Fy .u8 1 v13))))
    (j9 v6.1))
   (j6 v6.1)
def F0 (N : Nat) (p0 : Ad) : Option (Aj × Int) :=
 (Bp N p0).bind fun v1 =>
 AF ((v1 != 0))
  (some ((Aj.mk (([] : List Int)) (([] : List Int)) (([] : List Int))), v1))
  ((Bv N p0.fj).bind fun v3 =>
  (CF N (([(-1)] : List Int)) ((p0.fj.length : Int))).bind fun v4 =>
  (Eu ((0 : Int) ≤ (p0.fg.length : Int) ∧ (p0.fg.length : Int) ≤ (p0.fg.length : Int) ∧ (p0.fg.length : Int) ≤ (Je : Int))).bind fun _ =>
  Du N p0 (fun (v7 : (List Int)) =>
   some ((Aj.mk v3 v4 v7), 0)) N (zA3 ((p0.fg.length : Int)).toNat ((0 : Int)), 0))
def Fb (_ : Nat) (p0 : Aj) (p1 : Int) : Option Int :=
 (BU p0.fe p1).bind fun v1 =>
 (Eu (0 ≤ v1)).bind fun _ =>
 Bt (fun (v3 : Int) =>
  some v3)
 fun j3 =>
 (BU p0.fc p1).bind fun v4 =>
 AF ((decide (0 ≤ v4)))
  ((BU p0.fc p1).bind fun v6 =>
  (Eu (0 ≤ v6)).bind fun _ =>
  j3 (LZ .u8 ((Fy .u8 1 v1)) ((Fy .u8 1 v6))))
  (j3 (Fy .u8 1 v1))
def Dv (N : Nat) (p0 : Ad) (p1 : Aj) (j7 : Unit → Option Int) : Nat → Int → Option Int
 | 0, _ => none
 | n7 + 1, v7 =>
  AF ((decide (v7 < (p0.fi.length : Int))))
   ((BU p0.fi v7).bind fun v10 =>
   Bt (fun (v11 : Bool) =>
    AF v11
     (some 7)
     ((BU p1.fe v7).bind fun v20 =>
     (BU p1.fc v7).bind fun v21 =>
     AF ((v20 == v21))
      (some 1)
      (Dv N p0 p1 j7 n7 (wI .i64 (v7 + 1)))))
   fun j11 =>
   (BU p1.fe v7).bind fun v12 =>
   AF ((decide (v12 < 0)))
    (j11 true)
    ((BU p1.fe v7).bind fun v14 =>
    AF ((decide (v10 ≤ v14)))
     (j11 true)
     ((BU p1.fc v7).bind fun v16 =>
     AF ((decide (v16 < (-1))))
      (j11 true)
      ((BU p1.fc v7).bind fun v18 =>
      j11 (decide (v10 ≤ v18))))))
   (j7 ())
def Df (N : Nat) (p0 : Ad) (p1 : Aj) (j23 : Unit → Option Int) : Nat → Int → Option Int
 | 0, _ => none
 | n23 + 1, v23 =>
  AF ((decide (v23 < (p0.fg.length : Int))))
   ((BU p0.fg v23).bind fun v26 =>
   Bt (fun (v27 : Int × Int) =>
    Bt (fun (v33 : Bool) =>
     AF v33
      (some 1)
      (Df N p0 p1 j23 n23 (wI .i64 (v23 + 1))))
    fun j33 =>
    (BU p1.ff v23).bind fun v34 =>
    AF (((F3 .u8 v27.1 v34) != 0))
     (j33 true)
     ((BU p1.ff v23).bind fun v36 =>
     j33 ((F3 .u8 v36 v27.2) != 0)))
   fun j27 =>
   (Ez N v26).bind fun v28 =>
   AF v28
    ((Fb N p1 v26.fF).bind fun v30 =>
    (BU p0.fi v26.fF).bind fun v31 =>
    (Eu (0 ≤ v31)).bind fun _ =>
    j27 (v30, (wI .u8 ((Fy .u8 1 v31) - 1))))
    (j27 (0, 0)))
   (j23 ())
def EQ (N : Nat) (p0 : Ad) (p1 : Aj) : Option Int :=
 (Bp N p0).bind fun v1 =>
 AF ((v1 != 0))
  (some v1)
  (Bt (fun (v3 : Bool) =>
   AF v3
    (some 6)
    (Dv N p0 p1 (fun (_ : Unit) =>
     Df N p0 p1 (fun (_ : Unit) =>
      some 0) N 0) N 0))
  fun j3 =>
  AF (((p1.fe.length : Int) != (p0.fi.length : Int)))
   (j3 true)
   (AF (((p1.fc.length : Int) != (p0.fi.length : Int)))
    (j3 true)
    (j3 ((p1.ff.length : Int) != (p0.fg.length : Int)))))
def BK (_ : Nat) (p0 : List Int) : Option ((List Int)) :=
 (Eu ((([] : List Int)).length + p0.length ≤ Je)).bind fun _ =>
 some ((([] : List Int)) ++ p0)
def D0 (N : Nat) (p0 : Aj) : Option Aj :=
 (Bv N p0.fe).bind fun v1 =>
 (Bv N p0.fc).bind fun v2 =>
 (BK N p0.ff).bind fun v3 =>
 some ((Aj.mk v1 v2 v3))
def FG (_ : Nat) (p0 : Au) : Option Bool :=
 Bt (fun (v1 : Bool) =>
  AF v1
   (some false)
   (Bt (fun (v5 : Bool) =>
    some v5)
   fun j5 =>
   AF ((p0.fd == 1))
    (j5 true)
    (j5 (p0.fp == 0))))
 fun j1 =>
 AF ((decide ((OY p0.fk p0.fp) < 0)))
  (j1 true)
  (AF ((decide (p0.fd < 1)))
   (j1 true)
   (j1 (decide (4 < p0.fd))))
def E2 (_ : Nat) (p0 : Ad) (p1 : Au) : Option Bool :=
 AF ((p1.fd == 3))
  (some ((decide (p1.fk < (p0.fg.length : Int)))))
  (Bt (fun (v2 : Bool) =>
   some v2)
  fun j2 =>
  AF ((decide (p1.fk < (p0.fi.length : Int))))
   (AF ((p1.fd != 1))
    (j2 true)
    ((BU p0.fi p1.fk).bind fun v5 =>
    j2 (decide (p1.fp < v5))))
   (j2 false))
def DU (_ : Nat) (p0 : AU) : Option Bool :=
 Bt (fun (v1 : Bool) =>
  some v1)
 fun j1 =>
 AF ((p0.fd == 3))
  (j1 true)
  (j1 (p0.fd == 4))
def Di (N : Nat) (p0 : Ad) (p2 : Au) (j7 : ((List Int)) → Option (Bool × (List Int) × (List Int))) : Nat → ((List Int) × Int) → Option (Bool × (List Int) × (List Int))
 | 0, _ => none
 | n7 + 1, v7 =>
  AF ((decide (v7.2 < (p0.fg.length : Int))))
   (Bt (fun (v10 : (List Int)) =>
    Di N p0 p2 j7 n7 (v10, (wI .i64 (v7.2 + 1))))
   fun j10 =>
   (BU p0.fg v7.2).bind fun v11 =>
   Bt (fun (v12 : Bool) =>
    AF v12
     ((BU v7.1 v7.2).bind fun v16 =>
     (Eu (0 ≤ p2.fp)).bind fun _ =>
     (BU v7.1 v7.2).bind fun _ =>
     j10 (v7.1.set ((v7.2).toNat) ((LZ .u8 v16 ((Fy .u8 1 p2.fp))))))
     (j10 v7.1))
   fun j12 =>
   AF ((v11.fF == p2.fk))
    ((DU N v11).bind fun v14 =>
    j12 v14)
    (j12 false))
   (j7 v7.1)
def Fx (N : Nat) (p0 : Ad) (p1 : Aj) (p2 : Au) : Option (Bool × (List Int) × (List Int)) :=
 Bt (fun (v1 : Bool) =>
  AF v1
   (some (false, p1.fc, p1.ff))
   ((BU p1.fc p2.fk).bind fun _ =>
   Di N p0 p2 (fun (v8 : (List Int)) =>
    some (true, p1.fc.set ((p2.fk).toNat) p2.fp, v8)) N (p1.ff, 0)))
 fun j1 =>
 (BU p1.fc p2.fk).bind fun v2 =>
 AF ((decide (0 ≤ v2)))
  (j1 true)
  ((BU p1.fe p2.fk).bind fun v4 =>
  j1 (v4 == p2.fp))
def EF (_ : Nat) (p0 : Aj) (p1 : Int) : Option Int :=
 (BU p0.fe p1).bind fun v1 =>
 (Eu (0 ≤ v1)).bind fun _ =>
 Bt (fun (v3 : Int) =>
  some v3)
 fun j3 =>
 (BU p0.fc p1).bind fun v4 =>
 AF ((decide (0 ≤ v4)))
  ((BU p0.fc p1).bind fun v6 =>
  (Eu (0 ≤ v6)).bind fun _ =>
  j3 (LZ .u8 ((Fy .u8 1 v1)) ((Fy .u8 1 v6))))
  (j3 (Fy .u8 1 v1))
def Cf (_ : Nat) (p0 : Int) : Option Int :=
 (ON ((⟨⟨(List.append (List.append [8, 0, 1, 0, 2, 0, 1, 0, 3, 0, 1, 0, 2, 0, 1, 0, 4, 0, 1, 0, 2, 0, 1, 0, 3, 0, 1, 0, 2, 0, 1, 0, 5, 0, 1, 0, 2, 0, 1, 0, 3, 0, 1, 0, 2, 0, 1, 0, 4, 0, 1, 0, 2, 0, 1, 0, 3, 0, 1, 0, 2, 0, 1, 0] [6, 0, 1, 0, 2, 0, 1, 0, 3, 0, 1, 0, 2, 0, 1, 0, 4, 0, 1, 0, 2, 0, 1, 0, 3, 0, 1, 0, 2, 0, 1, 0, 5, 0, 1, 0, 2, 0, 1, 0, 3, 0, 1, 0, 2, 0, 1, 0, 4, 0, 1, 0, 2, 0, 1, 0, 3, 0, 1, 0, 2, 0, 1, 0]) (List.append [7, 0, 1, 0, 2, 0, 1, 0, 3, 0, 1, 0, 2, 0, 1, 0, 4, 0, 1, 0, 2, 0, 1, 0, 3, 0, 1, 0, 2, 0, 1, 0, 5, 0, 1, 0, 2, 0, 1, 0, 3, 0, 1, 0, 2, 0, 1, 0, 4, 0, 1, 0, 2, 0, 1, 0, 3, 0, 1, 0, 2, 0, 1, 0] [6, 0, 1, 0, 2, 0, 1, 0, 3, 0, 1, 0, 2, 0, 1, 0, 4, 0, 1, 0, 2, 0, 1, 0, 3, 0, 1, 0, 2, 0, 1, 0, 5, 0, 1, 0, 2, 0, 1, 0, 3, 0, 1, 0, 2, 0, 1, 0, 4, 0, 1, 0, 2, 0, 1, 0, 3, 0, 1, 0, 2, 0, 1, 0]))⟩⟩ : ByteArray)) p0).bind fun v1 =>
 some ((wI .i64 v1))
def Ct (N : Nat) (p0 : AU) (p2 : Int) (j1 : Unit → Option Bool) : Nat → Int → Option Bool
 | 0, _ => none
 | n1 + 1, v1 =>
  AF ((v1 != 0))
   ((Cf N v1).bind fun v4 =>
   (BU p0.fG v4).bind fun v5 =>
   (BU v5 p2).bind fun v6 =>
   AF ((!v6))
    (some false)
    (Ct N p0 p2 j1 n1 (Fi .u8 v1 ((wI .u8 (v1 - 1))))))
   (j1 ())
def DC (N : Nat) (p0 : AU) (p1 : Int) (p2 : Int) : Option Bool :=
 Ct N p0 p2 (fun (_ : Unit) =>
  some true) N p1
def FH (N : Nat) (p0 : Ad) (p1 : Aj) (p2 : Int) : Option (Bool × (List Int)) :=
 (BU p0.fg p2).bind fun v1 =>
 (DU N v1).bind fun v2 =>
 AF ((!v2))
  (some (false, p1.ff))
  ((EF N p1 v1.fF).bind fun v4 =>
  (BU p1.ff p2).bind fun v5 =>
  Bt (fun (v6 : Bool) =>
   AF v6
    (some (false, p1.ff))
    ((BU p1.ff p2).bind fun _ =>
    some (true, p1.ff.set ((p2).toNat) v4)))
  fun j6 =>
  (BU p1.ff p2).bind fun v7 =>
  AF ((v7 == v4))
   (j6 true)
   (AF ((v1.fd == 4))
    ((BU p1.fe v1.fF).bind fun v10 =>
    (DC N v1 ((F3 .u8 v5 v4)) v10).bind fun v11 =>
    j6 (!v11))
    (j6 false)))
def FI (N : Nat) (p0 : Ad) (p1 : Aj) (p2 : Au) : Option (Aj × Bool) :=
 (D0 N p1).bind fun v1 =>
 AF ((p2.fd == 1))
  ((Fx N p0 v1 p2).bind fun v3 =>
  some ((Aj.mk v1.fe v3.2.1 v3.2.2), v3.1))
  (AF ((p2.fd == 3))
   ((FH N p0 v1 p2.fk).bind fun v5 =>
   some ((Aj.mk v1.fe v1.fc v5.2), v5.1))
   ((BU v1.fc p2.fk).bind fun v6 =>
   AF ((decide (v6 < 0)))
    (some (v1, false))
    ((BU v1.fc p2.fk).bind fun _ =>
    Bt (fun (v9 : (List Int)) =>
     some ((Aj.mk v9 (v1.fc.set ((p2.fk).toNat) ((-1))) v1.ff), true))
    fun j9 =>
    AF ((p2.fd == 2))
     ((BU v1.fe p2.fk).bind fun _ =>
     j9 (v1.fe.set ((p2.fk).toNat) v6))
     (j9 v1.fe))))
def EA (N : Nat) (p0 : Ad) (p1 : Aj) (p2 : Au) : Option (Aj × Int) :=
 (FG N p2).bind fun v1 =>
 AF ((!v1))
  (some ((Aj.mk (([] : List Int)) (([] : List Int)) (([] : List Int))), 1))
  ((E2 N p0 p2).bind fun v3 =>
  AF ((!v3))
   (some ((Aj.mk (([] : List Int)) (([] : List Int)) (([] : List Int))), 4))
   ((FI N p0 p1 p2).bind fun v5 =>
   AF ((!v5.2))
    (some ((Aj.mk (([] : List Int)) (([] : List Int)) (([] : List Int))), 11))
    (some (v5.1, 0))))
def D6 (N : Nat) (p0 : Ad) (p2 : List Au) (j4 : ((List Aj)) → Option ((List Aj) × Int × Int)) : Nat → ((List Aj) × Int) → Option ((List Aj) × Int × Int)
 | 0, _ => none
 | n4 + 1, v4 =>
  AF ((decide (v4.2 < (p2.length : Int))))
   ((BU p2 v4.2).bind fun v7 =>
   (BU v4.1 v4.2).bind fun v8 =>
   (EA N p0 v8 v7).bind fun v9 =>
   AF ((v9.2 != 0))
    (some (([] : List Aj), v4.2, v9.2))
    ((Eu (v4.1.length + (([v9.1] : List Aj)).length ≤ Je)).bind fun _ =>
    D6 N p0 p2 j4 n4 (v4.1 ++ (([v9.1] : List Aj)), (wI .i64 (v4.2 + 1)))))
   (j4 v4.1)
def GJ (N : Nat) (p0 : Ad) (p1 : Aj) (p2 : List Au) : Option ((List Aj) × Int × Int) :=
 (EQ N p0 p1).bind fun v1 =>
 AF ((v1 != 0))
  (some (([] : List Aj), 0, v1))
  ((D0 N p1).bind fun v3 =>
  D6 N p0 p2 (fun (v5 : (List Aj)) =>
   some (v5, (p2.length : Int), 0)) N (([v3] : List Aj), 0))
def CY (N : Nat) (p0 : Ad) (p1 : List Au) : Option (Aj × Int) :=
 (A8 N p1 ((fun (x : Au) => CD N x))).bind fun v1 =>
 AF v1
  (some ((Aj.mk (([] : List Int)) (([] : List Int)) (([] : List Int))), 1))
  ((F0 N p0).bind fun v3 =>
  AF ((v3.2 != 0))
   (some ((Aj.mk (([] : List Int)) (([] : List Int)) (([] : List Int))), v3.2))
   ((GJ N p0 v3.1 p1).bind fun v5 =>
   some (v3.1, v5.2.2)))
def Ci (_ : Nat) (p0 : Int) : Option ByteArray :=
 Bt (fun (v1 : Bool) =>
  AF v1
   (some ((⟨#[]⟩ : ByteArray)))
   ((BU ([⟨#[]⟩, (⟨#[114, 101, 97, 100]⟩ : ByteArray), (⟨#[98, 101, 103, 105, 110]⟩ : ByteArray), (⟨#[100, 111, 110, 101]⟩ : ByteArray), (⟨#[97, 98, 111, 114, 116]⟩ : ByteArray), (⟨#[114, 101, 115, 117, 109, 101]⟩ : ByteArray), (⟨#[115, 119, 105, 116, 99, 104]⟩ : ByteArray), (⟨#[108, 101, 97, 115, 101]⟩ : ByteArray)] : List ByteArray) p0).bind fun v4 =>
   some v4))
 fun j1 =>
 AF ((decide (p0 < 0)))
  (j1 true)
  (j1 (decide (8 ≤ p0)))
def B9 (_ : Nat) (p0 : Aa) : Option ((List Int)) :=
 AF ((p0.fd == 1))
  (some (([p0.fA, p0.fw, p0.fB] : List Int)))
  (AF ((p0.fd == 6))
   (some (([p0.fy, p0.fp, p0.fC] : List Int)))
   (AF ((p0.fd == 7))
    (some (([p0.fE, p0.fr] : List Int)))
    (some (([p0.fk, p0.fr] : List Int)))))
def CO (_ : Nat) (p0 : Int) (p1 : Int) (p2 : List Int) : Option Aa :=
 Bt (fun (v1 : Int × Int × Int × Int × Int × Int × Int × Int × Int) =>
  some ((Aa.mk p0 p1 v1.1 v1.2.1 v1.2.2.1 v1.2.2.2.1 v1.2.2.2.2.1 v1.2.2.2.2.2.1 v1.2.2.2.2.2.2.1 v1.2.2.2.2.2.2.2.1 v1.2.2.2.2.2.2.2.2)))
 fun j1 =>
 AF ((p1 == 1))
  ((BU p2 0).bind fun v3 =>
  (BU p2 1).bind fun v4 =>
  (BU p2 2).bind fun v5 =>
  j1 (v3, v4, v5, 0, 0, 0, 0, 0, 0))
  (AF ((p1 == 6))
   ((BU p2 0).bind fun v7 =>
   (BU p2 1).bind fun v8 =>
   (BU p2 2).bind fun v9 =>
   j1 (0, 0, 0, 0, 0, v9, v7, v8, 0))
   (AF ((p1 == 7))
    ((BU p2 0).bind fun v11 =>
    (BU p2 1).bind fun v12 =>
    j1 (0, 0, 0, 0, v12, 0, 0, 0, v11))
    ((BU p2 0).bind fun v13 =>
    (BU p2 1).bind fun v14 =>
    j1 (0, 0, 0, v13, v14, 0, 0, 0, 0))))
def AC (N : Nat) (p0 : List Int) (p1 : Int → Option Bool) (j1 : Unit → Option Int) : Nat → Int → Option Int
 | 0, _ => none
 | n1 + 1, v1 =>
  AF ((decide (v1 < (p0.length : Int))))
   ((BU p0 v1).bind fun v4 =>
   (p1 v4).bind fun v5 =>
   AF v5
    (some v1)
    (AC N p0 p1 j1 n1 (wI .i64 (v1 + 1))))
   (j1 ())
def Bd (N : Nat) (p0 : List Int) (p1 : Int → Option Bool) : Option Int :=
 AC N p0 p1 (fun (_ : Unit) =>
  some ((-1))) N 0
def AH (N : Nat) (p0 : List Int) (p1 : Int → Option Bool) : Option Bool :=
 (Bd N p0 p1).bind fun v1 =>
 some ((decide (0 ≤ v1)))
def Cm (_ : Nat) (p0 : Int) : Option Bool :=
 some ((decide (p0 < 0)))
def Dd (N : Nat) (p0 : Aa) : Option Bool :=
 Bt (fun (v1 : Bool) =>
  AF v1
   (some false)
   ((B9 N p0).bind fun v5 =>
   Bt (fun (v6 : Bool) =>
    some v6)
   fun j6 =>
   (CO N p0.fh p0.fd v5).bind fun v7 =>
   AF (((p0.fh == v7.fh) && ((p0.fd == v7.fd) && ((p0.fA == v7.fA) && ((p0.fw == v7.fw) && ((p0.fB == v7.fB) && ((p0.fk == v7.fk) && ((p0.fr == v7.fr) && ((p0.fC == v7.fC) && ((p0.fy == v7.fy) && ((p0.fp == v7.fp) && ((p0.fE == v7.fE) && true))))))))))))
    ((AH N v5 ((fun (x : Int) => Cm N x))).bind fun v9 =>
    j6 (!v9))
    (j6 false)))
 fun j1 =>
 (Ci N p0.fd).bind fun v2 =>
 AF ((v2.toList == ((⟨#[]⟩ : ByteArray)).toList))
  (j1 true)
  (j1 (decide (p0.fh < 0)))
def B4 (N : Nat) (p0 : List Aa) (j2 : Unit → Option Int) : Nat → Int → Option Int
 | 0, _ => none
 | n2 + 1, v2 =>
  AF ((decide (v2 < (p0.length : Int))))
   ((BU p0 v2).bind fun v5 =>
   Bt (fun (v6 : Bool) =>
    AF v6
     (some 1)
     (B4 N p0 j2 n2 (wI .i64 (v2 + 1))))
   fun j6 =>
   (Dd N v5).bind fun v7 =>
   AF ((!v7))
    (j6 true)
    (AF ((decide (0 < v2)))
     ((BU p0 ((wI .i64 (v2 - 1)))).bind fun v10 =>
     j6 (decide (v5.fh < v10.fh)))
     (j6 false)))
   (j2 ())
def BV (N : Nat) (p0 : List Aa) : Option Int :=
 AF ((decide (10000 < (p0.length : Int))))
  (some 3)
  (B4 N p0 (fun (_ : Unit) =>
   some 0) N 0)
def DD (_ : Nat) : Option AX :=
 some ((AX.mk 0 0 false (([] : List (Int × Int)))))
def Fw (_ : Nat) (p0 : Ad) (p1 : Aa) : Option Bool :=
 AF ((decide ((p0.fg.length : Int) ≤ p1.fA)))
  (some false)
  ((BU p0.fg p1.fA).bind fun v2 =>
  Bt (fun (v3 : Bool) =>
   some v3)
  fun j3 =>
  AF ((decide (p1.fw < (v2.fI.length : Int))))
   ((BU p0.fi v2.fH).bind fun v5 =>
   AF ((decide (p1.fB < v5)))
    ((BU v2.fI p1.fw).bind fun v7 =>
    (BU v7 p1.fB).bind fun v8 =>
    j3 v8)
    (j3 false))
   (j3 false))
def Cy (_ : Nat) (p0 : Aa) : Option Bool :=
 Bt (fun (v1 : Bool) =>
  some v1)
 fun j1 =>
 AF ((decide (2 ≤ p0.fd)))
  (j1 (decide (p0.fd ≤ 5)))
  (j1 false)
def B1 (_ : Nat) (p0 : Ae) (p1 : Aa) : Option Bool :=
 Bt (fun (v1 : Bool) =>
  AF v1
   (some false)
   (AF ((p1.fd == 2))
    (some ((p0.fq == 0)))
    (AF ((p1.fd == 3))
     (some ((p0.fq == 1)))
     (AF ((p1.fd == 4))
      (Bt (fun (v7 : Bool) =>
       some v7)
      fun j7 =>
      AF ((p0.fq == 1))
       ((BU p0.fo p0.fh).bind fun v9 =>
       j7 (v9.fd == 1))
       (j7 false))
      (some ((p0.fq == 2)))))))
 fun j1 =>
 AF ((p1.fk != p0.fh))
  (j1 true)
  (j1 (decide ((p0.fo.length : Int) ≤ p0.fh)))
def C3 (N : Nat) (p0 : AX) (p1 : Aa) : Option (Bool × AX × (List (Int × Int))) :=
 Bt (fun (v1 : (List (Int × Int)) × Int × Int × Bool) =>
  some (true, (AX.mk v1.2.1 v1.2.2.1 v1.2.2.2 v1.1), v1.1))
 fun j1 =>
 (Cy N p1).bind fun v2 =>
 AF v2
  (AF ((decide (p1.fr < p0.ft)))
   (some (false, p0, p0.fD))
   (j1 (p0.fD, p1.fr, p0.fu, p0.fv)))
  (AF ((p1.fd == 6))
   (AF ((decide (p1.fC < ((Gs p1.fy p0.fD).getD 0))))
    (some (false, p0, p0.fD))
    (j1 (Iw p1.fy p1.fC p0.fD, p0.ft, p0.fu, p0.fv)))
   (AF ((p1.fd == 7))
    (Bt (fun (v8 : Bool) =>
     AF v8
      (some (false, p0, p0.fD))
      (j1 (p0.fD, p0.ft, p1.fr, true)))
    fun j8 =>
    AF p0.fv
     (j8 (decide (p1.fr ≤ p0.fu)))
     (j8 false))
    (j1 (p0.fD, p0.ft, p0.fu, p0.fv))))
def C6 (N : Nat) (p0 : List Int) (j1 : Unit → Option Int) : Nat → (Int × Int) → Option Int
 | 0, _ => none
 | n1 + 1, v1 =>
  AF ((decide (v1.2 < (p0.length : Int))))
   ((BU p0 v1.2).bind fun v4 =>
   AF ((decide (v1.1 < v4)))
    (some v1.2)
    (C6 N p0 j1 n1 ((wI .i64 (v1.1 - v4)), (wI .i64 (v1.2 + 1)))))
   (j1 ())
def EZ (N : Nat) (p0 : List Int) (p1 : Int) : Option Int :=
 C6 N p0 (fun (_ : Unit) =>
  some ((-1))) N (p1, 0)
def CL (_ : Nat) (p0 : Aj) (p1 : Int) (p2 : Int) : Option Bool :=
 Bt (fun (v1 : Bool) =>
  some v1)
 fun j1 =>
 (BU p0.fe p1).bind fun v2 =>
 AF ((v2 == p2))
  (j1 true)
  ((BU p0.fc p1).bind fun v4 =>
  j1 (v4 == p2))
def Er (N : Nat) (p0 : Ad) (p1 : Aj) (p2 : Aa) : Option Bool :=
 (BU p0.fg p2.fA).bind fun v1 =>
 (CL N p1 v1.fH p2.fB).bind fun v2 =>
 AF ((!v2))
  (some false)
  (Bt (fun (v4 : Bool) =>
   AF v4
    ((BU p1.ff p2.fA).bind fun v7 =>
    (Eu (0 ≤ p2.fw)).bind fun _ =>
    some (((Fi .u8 ((EJ .u8 v7 p2.fw)) 1) == 1)))
    ((CL N p1 v1.fF p2.fw).bind fun v9 =>
    some v9))
  fun j4 =>
  AF ((v1.fd == 3))
   (j4 true)
   (j4 (v1.fd == 4)))
def FE (N : Nat) (p0 : Ad) (p1 : Aj) (p2 : Au) : Option (Aj × Int) :=
 (EQ N p0 p1).bind fun v1 =>
 AF ((v1 != 0))
  (some ((Aj.mk (([] : List Int)) (([] : List Int)) (([] : List Int))), v1))
  ((EA N p0 p1 p2).bind fun v3 =>
  some (v3.1, v3.2))
def BI (N : Nat) (p0 : Ae) (p1 : Au) : Option Ae :=
 (FE N ((Ad.mk p0.fa.fi p0.fa.fj p0.fa.fm p0.fa.fg)) ((Aj.mk p0.fb.fe p0.fb.fc p0.fb.ff)) p1).bind fun v1 =>
 AF ((v1.2 == 0))
  (some ((Ae.mk ((Ad.mk p0.fa.fi p0.fa.fj p0.fa.fm p0.fa.fg)) p0.fo p0.fh p0.fq v1.1)))
  (some ((Ae.mk ((Ad.mk p0.fa.fi p0.fa.fj p0.fa.fm p0.fa.fg)) p0.fo p0.fh p0.fq ((Aj.mk p0.fb.fe p0.fb.fc p0.fb.ff)))))
def BS (N : Nat) (p0 : Ae) (p1 : Aa) : Option Ae :=
 (BU p0.fo p0.fh).bind fun v1 =>
 AF ((p1.fd == 2))
  (AF ((v1.fd == 1))
   ((BI N ((Ae.mk ((Ad.mk p0.fa.fi p0.fa.fj p0.fa.fm p0.fa.fg)) p0.fo p0.fh 1 ((Aj.mk p0.fb.fe p0.fb.fc p0.fb.ff)))) v1).bind fun v4 =>
   some ((Ae.mk ((Ad.mk v4.fa.fi v4.fa.fj v4.fa.fm v4.fa.fg)) v4.fo v4.fh v4.fq ((Aj.mk v4.fb.fe v4.fb.fc v4.fb.ff)))))
   (some ((Ae.mk ((Ad.mk p0.fa.fi p0.fa.fj p0.fa.fm p0.fa.fg)) p0.fo p0.fh 1 ((Aj.mk p0.fb.fe p0.fb.fc p0.fb.ff))))))
  (AF ((p1.fd == 3))
   (Bt (fun (v6 : Ae) =>
    some ((Ae.mk ((Ad.mk v6.fa.fi v6.fa.fj v6.fa.fm v6.fa.fg)) v6.fo ((wI .i64 (v6.fh + 1))) 0 ((Aj.mk v6.fb.fe v6.fb.fc v6.fb.ff)))))
   fun j6 =>
   AF ((v1.fd != 1))
    ((BI N ((Ae.mk ((Ad.mk p0.fa.fi p0.fa.fj p0.fa.fm p0.fa.fg)) p0.fo p0.fh p0.fq ((Aj.mk p0.fb.fe p0.fb.fc p0.fb.ff)))) v1).bind fun v8 =>
    j6 (Ae.mk ((Ad.mk v8.fa.fi v8.fa.fj v8.fa.fm v8.fa.fg)) v8.fo v8.fh v8.fq ((Aj.mk v8.fb.fe v8.fb.fc v8.fb.ff))))
    (j6 (Ae.mk ((Ad.mk p0.fa.fi p0.fa.fj p0.fa.fm p0.fa.fg)) p0.fo p0.fh p0.fq ((Aj.mk p0.fb.fe p0.fb.fc p0.fb.ff)))))
   (AF ((p1.fd == 4))
    (some ((Ae.mk ((Ad.mk p0.fa.fi p0.fa.fj p0.fa.fm p0.fa.fg)) p0.fo p0.fh 2 ((Aj.mk p0.fb.fe p0.fb.fc p0.fb.ff)))))
    (AF ((p1.fd == 5))
     ((BI N ((Ae.mk ((Ad.mk p0.fa.fi p0.fa.fj p0.fa.fm p0.fa.fg)) p0.fo p0.fh 0 ((Aj.mk p0.fb.fe p0.fb.fc p0.fb.ff)))) ((Au.mk 4 v1.fk 0))).bind fun v11 =>
     some ((Ae.mk ((Ad.mk v11.fa.fi v11.fa.fj v11.fa.fm v11.fa.fg)) v11.fo v11.fh v11.fq ((Aj.mk v11.fb.fe v11.fb.fc v11.fb.ff)))))
     (some ((Ae.mk ((Ad.mk p0.fa.fi p0.fa.fj p0.fa.fm p0.fa.fg)) p0.fo p0.fh p0.fq ((Aj.mk p0.fb.fe p0.fb.fc p0.fb.ff))))))))
def DA (N : Nat) (p0 : Ae) (p1 : AX) (p2 : List Int) (p3 : Aa) : Option (Int × Ae × AX × (List (Int × Int))) :=
 Bt (fun (v1 : (List (Int × Int)) × Ae × Int × Int × Bool) =>
  some (0, (Ae.mk ((Ad.mk v1.2.1.fa.fi v1.2.1.fa.fj v1.2.1.fa.fm v1.2.1.fa.fg)) v1.2.1.fo v1.2.1.fh v1.2.1.fq ((Aj.mk v1.2.1.fb.fe v1.2.1.fb.fc v1.2.1.fb.ff))), (AX.mk v1.2.2.1 v1.2.2.2.1 v1.2.2.2.2 v1.1), v1.1))
 fun j1 =>
 Bt (fun (v2 : Bool) =>
  AF v2
   (some (1, (Ae.mk ((Ad.mk p0.fa.fi p0.fa.fj p0.fa.fm p0.fa.fg)) p0.fo p0.fh p0.fq ((Aj.mk p0.fb.fe p0.fb.fc p0.fb.ff))), p1, p1.fD))
   (Bt (fun (v6 : Bool) =>
    AF v6
     (some (2, (Ae.mk ((Ad.mk p0.fa.fi p0.fa.fj p0.fa.fm p0.fa.fg)) p0.fo p0.fh p0.fq ((Aj.mk p0.fb.fe p0.fb.fc p0.fb.ff))), p1, p1.fD))
     ((C3 N p1 p3).bind fun v11 =>
     AF ((!v11.1))
      (some (3, (Ae.mk ((Ad.mk p0.fa.fi p0.fa.fj p0.fa.fm p0.fa.fg)) p0.fo p0.fh p0.fq ((Aj.mk p0.fb.fe p0.fb.fc p0.fb.ff))), (AX.mk v11.2.1.ft v11.2.1.fu v11.2.1.fv v11.2.2), v11.2.2))
      (AF ((p3.fd == 6))
       ((EZ N p2 p3.fy).bind fun v14 =>
       Bt (fun (v15 : Bool) =>
        AF v15
         (some (4, (Ae.mk ((Ad.mk p0.fa.fi p0.fa.fj p0.fa.fm p0.fa.fg)) p0.fo p0.fh p0.fq ((Aj.mk p0.fb.fe p0.fb.fc p0.fb.ff))), (AX.mk v11.2.1.ft v11.2.1.fu v11.2.1.fv v11.2.2), v11.2.2))
         (j1 (v11.2.2, (Ae.mk ((Ad.mk p0.fa.fi p0.fa.fj p0.fa.fm p0.fa.fg)) p0.fo p0.fh p0.fq ((Aj.mk p0.fb.fe p0.fb.fc p0.fb.ff))), v11.2.1.ft, v11.2.1.fu, v11.2.1.fv)))
       fun j15 =>
       AF ((decide (v14 < 0)))
        (j15 true)
        ((CL N ((Aj.mk p0.fb.fe p0.fb.fc p0.fb.ff)) v14 p3.fp).bind fun v17 =>
        j15 (!v17)))
       (AF ((p3.fd == 1))
        ((Er N ((Ad.mk p0.fa.fi p0.fa.fj p0.fa.fm p0.fa.fg)) ((Aj.mk p0.fb.fe p0.fb.fc p0.fb.ff)) p3).bind fun v20 =>
        AF ((!v20))
         (some (5, (Ae.mk ((Ad.mk p0.fa.fi p0.fa.fj p0.fa.fm p0.fa.fg)) p0.fo p0.fh p0.fq ((Aj.mk p0.fb.fe p0.fb.fc p0.fb.ff))), (AX.mk v11.2.1.ft v11.2.1.fu v11.2.1.fv v11.2.2), v11.2.2))
         (j1 (v11.2.2, (Ae.mk ((Ad.mk p0.fa.fi p0.fa.fj p0.fa.fm p0.fa.fg)) p0.fo p0.fh p0.fq ((Aj.mk p0.fb.fe p0.fb.fc p0.fb.ff))), v11.2.1.ft, v11.2.1.fu, v11.2.1.fv)))
        ((Cy N p3).bind fun v22 =>
        AF v22
         ((BS N ((Ae.mk ((Ad.mk p0.fa.fi p0.fa.fj p0.fa.fm p0.fa.fg)) p0.fo p0.fh p0.fq ((Aj.mk p0.fb.fe p0.fb.fc p0.fb.ff)))) p3).bind fun v24 =>
         j1 (v11.2.2, (Ae.mk ((Ad.mk v24.fa.fi v24.fa.fj v24.fa.fm v24.fa.fg)) v24.fo v24.fh v24.fq ((Aj.mk v24.fb.fe v24.fb.fc v24.fb.ff))), v11.2.1.ft, v11.2.1.fu, v11.2.1.fv))
         (j1 (v11.2.2, (Ae.mk ((Ad.mk p0.fa.fi p0.fa.fj p0.fa.fm p0.fa.fg)) p0.fo p0.fh p0.fq ((Aj.mk p0.fb.fe p0.fb.fc p0.fb.ff))), v11.2.1.ft, v11.2.1.fu, v11.2.1.fv)))))))
   fun j6 =>
   (Cy N p3).bind fun v7 =>
   AF v7
    ((B1 N ((Ae.mk ((Ad.mk p0.fa.fi p0.fa.fj p0.fa.fm p0.fa.fg)) p0.fo p0.fh p0.fq ((Aj.mk p0.fb.fe p0.fb.fc p0.fb.ff)))) p3).bind fun v9 =>
    j6 (!v9))
    (j6 false)))
 fun j2 =>
 AF ((p3.fd == 1))
  ((Fw N ((Ad.mk p0.fa.fi p0.fa.fj p0.fa.fm p0.fa.fg)) p3).bind fun v4 =>
  j2 (!v4))
  (j2 false)
def CS (N : Nat) (p1 : List Int) (p3 : List Aa) (j11 : Ae → Option (Int × Int × (Option Ae) × Int)) : Nat → (Ae × Int × Int × Bool × (List (Int × Int)) × Int) → Option (Int × Int × (Option Ae) × Int)
 | 0, _ => none
 | n11 + 1, v11 =>
  AF ((decide (v11.2.2.2.2.2 < (p3.length : Int))))
   ((BU p3 v11.2.2.2.2.2).bind fun v14 =>
   (DA N ((Ae.mk ((Ad.mk v11.1.fa.fi v11.1.fa.fj v11.1.fa.fm v11.1.fa.fg)) v11.1.fo v11.1.fh v11.1.fq ((Aj.mk v11.1.fb.fe v11.1.fb.fc v11.1.fb.ff)))) ((AX.mk v11.2.1 v11.2.2.1 v11.2.2.2.1 v11.2.2.2.2.1)) p1 v14).bind fun v15 =>
   AF ((v15.1 != 0))
    (some (v11.2.2.2.2.2, v15.1, (none : Option Ae), 0))
    (CS N p1 p3 j11 n11 ((Ae.mk ((Ad.mk v15.2.1.fa.fi v15.2.1.fa.fj v15.2.1.fa.fm v15.2.1.fa.fg)) v15.2.1.fo v15.2.1.fh v15.2.1.fq ((Aj.mk v15.2.1.fb.fe v15.2.1.fb.fc v15.2.1.fb.ff))), v15.2.2.1.ft, v15.2.2.1.fu, v15.2.2.1.fv, v15.2.2.2, (wI .i64 (v11.2.2.2.2.2 + 1)))))
   (j11 (Ae.mk ((Ad.mk v11.1.fa.fi v11.1.fa.fj v11.1.fa.fm v11.1.fa.fg)) v11.1.fo v11.1.fh v11.1.fq ((Aj.mk v11.1.fb.fe v11.1.fb.fc v11.1.fb.ff))))
def E0 (N : Nat) (p0 : Ad) (p1 : List Int) (p2 : List Au) (p3 : List Aa) : Option (Int × Int × (Option Ae) × Int) :=
 (Bp N p0).bind fun v1 =>
 AF ((v1 != 0))
  (some (0, 0, (none : Option Ae), v1))
  ((Ek N p0 p1).bind fun v3 =>
  AF ((v3 != 0))
   (some (0, 0, (none : Option Ae), v3))
   ((CY N p0 p2).bind fun v5 =>
   Bt (fun (v6 : Int) =>
    AF ((v6 != 0))
     (some (0, 0, (none : Option Ae), v6))
     ((DD N).bind fun v10 =>
     CS N p1 p3 (fun (v12 : Ae) =>
      some (0, 0, (some ((Ae.mk ((Ad.mk v12.fa.fi v12.fa.fj v12.fa.fm v12.fa.fg)) v12.fo v12.fh v12.fq ((Aj.mk v12.fb.fe v12.fb.fc v12.fb.ff))))), 15)) N ((Ae.mk p0 p2 0 0 v5.1), v10.ft, v10.fu, v10.fv, v10.fD, 0)))
   fun j6 =>
   AF ((v5.2 == 0))
    ((BV N p3).bind fun v8 =>
    j6 v8)
    (j6 v5.2)))
def DN (N : Nat) (p0 : Ad) (p1 : List Int) (p2 : List Au) (p3 : List Aa) : Option (Int × Int × Int) :=
 (E0 N p0 p1 p2 p3).bind fun v1 =>
 some (v1.1, v1.2.1, v1.2.2.2)
def CC (N : Nat) (p2 : List Aa) (j8 : Ae → Option ((Option Ae) × Int × Int)) : Nat → (Ae × Int) → Option ((Option Ae) × Int × Int)
 | 0, _ => none
 | n8 + 1, v8 =>
  AF ((decide (v8.2 < (p2.length : Int))))
   (Bt (fun (v11 : Ae) =>
    CC N p2 j8 n8 ((Ae.mk ((Ad.mk v11.fa.fi v11.fa.fj v11.fa.fm v11.fa.fg)) v11.fo v11.fh v11.fq ((Aj.mk v11.fb.fe v11.fb.fc v11.fb.ff))), (wI .i64 (v8.2 + 1))))
   fun j11 =>
   (BU p2 v8.2).bind fun v12 =>
   (Cy N v12).bind fun v13 =>
   AF ((!v13))
    (j11 (Ae.mk ((Ad.mk v8.1.fa.fi v8.1.fa.fj v8.1.fa.fm v8.1.fa.fg)) v8.1.fo v8.1.fh v8.1.fq ((Aj.mk v8.1.fb.fe v8.1.fb.fc v8.1.fb.ff))))
    ((B1 N ((Ae.mk ((Ad.mk v8.1.fa.fi v8.1.fa.fj v8.1.fa.fm v8.1.fa.fg)) v8.1.fo v8.1.fh v8.1.fq ((Aj.mk v8.1.fb.fe v8.1.fb.fc v8.1.fb.ff)))) v12).bind fun v15 =>
    AF ((!v15))
     (some ((some ((Ae.mk ((Ad.mk v8.1.fa.fi v8.1.fa.fj v8.1.fa.fm v8.1.fa.fg)) v8.1.fo v8.1.fh v8.1.fq ((Aj.mk v8.1.fb.fe v8.1.fb.fc v8.1.fb.ff))))), v8.2, 0))
     ((BS N ((Ae.mk ((Ad.mk v8.1.fa.fi v8.1.fa.fj v8.1.fa.fm v8.1.fa.fg)) v8.1.fo v8.1.fh v8.1.fq ((Aj.mk v8.1.fb.fe v8.1.fb.fc v8.1.fb.ff)))) v12).bind fun v17 =>
     j11 (Ae.mk ((Ad.mk v17.fa.fi v17.fa.fj v17.fa.fm v17.fa.fg)) v17.fo v17.fh v17.fq ((Aj.mk v17.fb.fe v17.fb.fc v17.fb.ff))))))
   (j8 (Ae.mk ((Ad.mk v8.1.fa.fi v8.1.fa.fj v8.1.fa.fm v8.1.fa.fg)) v8.1.fo v8.1.fh v8.1.fq ((Aj.mk v8.1.fb.fe v8.1.fb.fc v8.1.fb.ff))))
def DZ (N : Nat) (p0 : Ad) (p1 : List Au) (p2 : List Aa) : Option ((Option Ae) × Int × Int) :=
 (Bp N p0).bind fun v1 =>
 AF ((v1 != 0))
  (some ((none : Option Ae), 0, v1))
  ((CY N p0 p1).bind fun v3 =>
  Bt (fun (v4 : Int) =>
   AF ((v4 != 0))
    (some ((none : Option Ae), 0, v4))
    (CC N p2 (fun (v9 : Ae) =>
     some ((some ((Ae.mk ((Ad.mk v9.fa.fi v9.fa.fj v9.fa.fm v9.fa.fg)) v9.fo v9.fh v9.fq ((Aj.mk v9.fb.fe v9.fb.fc v9.fb.ff))))), (-1), 0)) N ((Ae.mk p0 p1 0 0 v3.1), 0)))
  fun j4 =>
  AF ((v3.2 == 0))
   ((BV N p2).bind fun v6 =>
   j4 v6)
   (j4 v3.2))
def F6 (N : Nat) (p0 : Ad) (p1 : List Au) (p2 : List Aa) : Option (Aj × Int) :=
 (DZ N p0 p1 p2).bind fun v1 =>
 AF ((v1.2.2 != 0))
  (some ((Aj.mk (([] : List Int)) (([] : List Int)) (([] : List Int))), v1.2.2))
  (AF ((decide (0 ≤ v1.2.1)))
   (some ((Aj.mk (([] : List Int)) (([] : List Int)) (([] : List Int))), 11))
   (v1.1.bind fun v4 =>
   some ((Aj.mk v4.fb.fe v4.fb.fc v4.fb.ff), 0)))
def Be (_ : Nat) (p0 p1 : Int) : Option ByteArray := (Eu (p1 = 10)).bind fun _ => Ij p0
def Cj (N : Nat) (v5 : (List Int)) (j6 : ByteArray → Option ByteArray) : Nat → (ByteArray × Int) → Option ByteArray
 | 0, _ => none
 | n6 + 1, v6 =>
  AF ((decide (v6.2 < (v5.length : Int))))
   ((BU v5 v6.2).bind fun v9 =>
   (Be N v9 10).bind fun v10 =>
   (Eu (((⟨#[32]⟩ : ByteArray)).size + v10.size ≤ 9223372036854775807)).bind fun _ =>
   (Eu (v6.1.size + (((⟨#[32]⟩ : ByteArray) ++ v10)).size ≤ 9223372036854775807)).bind fun _ =>
   Cj N v5 j6 n6 ((v6.1 ++ ((⟨#[32]⟩ : ByteArray) ++ v10)), (wI .i64 (v6.2 + 1))))
   (j6 v6.1)
def Ch (N : Nat) (p0 : Aa) : Option ByteArray :=
 (Be N p0.fh 10).bind fun v1 =>
 (Eu (v1.size + ((⟨#[32]⟩ : ByteArray)).size ≤ 9223372036854775807)).bind fun _ =>
 (Ci N p0.fd).bind fun v3 =>
 (Eu (((v1 ++ (⟨#[32]⟩ : ByteArray))).size + v3.size ≤ 9223372036854775807)).bind fun _ =>
 (B9 N p0).bind fun v5 =>
 Cj N v5 (fun (v7 : ByteArray) =>
  (Eu (v7.size + ((⟨#[10]⟩ : ByteArray)).size ≤ 9223372036854775807)).bind fun _ =>
  some ((v7 ++ (⟨#[10]⟩ : ByteArray)))) N (((v1 ++ (⟨#[32]⟩ : ByteArray)) ++ v3), 0)
def BE (line : Aa → Option ByteArray) : List Aa → ByteArray → Option ByteArray
 | [], a => some a
 | x :: xs, a => (line x).bind fun s => (Eu (a.size + s.size ≤ 140737488355328)).bind fun _ => BE line xs (a ++ s)
def Dw (N : Nat) (p0 : List Aa) : Option (ByteArray × Int) :=
 (Eu (p0.length ≤ 1000000)).bind fun _ =>
 (BV N p0).bind fun v1 =>
 AF (v1 != 0)
  (some (⟨#[]⟩, v1))
  ((BE (fun x => Ch N x) p0 ⟨#[]⟩).bind fun s =>
  AF (decide (65536 < s.size)) (some (⟨#[]⟩, 3)) (some (s, 0)))
def Dl (_ : Nat) (p0 : Int) : Option ByteArray :=
 (BU (([(⟨#[]⟩ : ByteArray), (⟨#[114, 101, 97, 100]⟩ : ByteArray), (⟨#[111, 114, 100, 101, 114]⟩ : ByteArray), (⟨#[116, 111, 107, 101, 110]⟩ : ByteArray), (⟨#[115, 119, 105, 116, 99, 104]⟩ : ByteArray), (⟨#[109, 105, 120]⟩ : ByteArray)] : List ByteArray)) p0).bind fun v1 =>
 some v1
def EG (_ : Nat) (p0 : Int) : Option ByteArray := Ij p0
def A4 (_ : Nat) (p0 : ByteArray) (p1 : ByteArray) : Option Bool :=
 Bt (fun (v1 : Bool) =>
  some v1)
 fun j1 =>
 AF ((decide ((p1.size : Int) ≤ (p0.size : Int))))
  ((Eu ((0 : Int) ≤ (wI .i64 ((p0.size : Int) - (p1.size : Int))) ∧ ((wI .i64 ((p0.size : Int) - (p1.size : Int)))).toNat ≤ p0.size ∧ p0.size ≤ p0.size)).bind fun _ =>
  j1 (((p0.extract (((wI .i64 ((p0.size : Int) - (p1.size : Int)))).toNat) p0.size)).toList == p1.toList))
  (j1 false)
def A1 (N : Nat) (p0 : ByteArray) (p1 : ByteArray) : Option ByteArray :=
 (A4 N p0 p1).bind fun v1 =>
 AF v1
  ((Eu ((0 : Int) ≤ (wI .i64 ((p0.size : Int) - (p1.size : Int))) ∧ 0 ≤ ((wI .i64 ((p0.size : Int) - (p1.size : Int)))).toNat ∧ ((wI .i64 ((p0.size : Int) - (p1.size : Int)))).toNat ≤ p0.size)).bind fun _ =>
  some ((p0.extract 0 (((wI .i64 ((p0.size : Int) - (p1.size : Int)))).toNat))))
  (some p0)
def BQ (N : Nat) (p0 : ByteArray) (p1 : ByteArray) : Option ByteArray :=
 (A1 N p0 p1).bind fun v1 =>
 some v1
def Cz (N : Nat) (p0 : List Aa) (p1 : Int) (p2 : Int) : Option (ByteArray × Int) :=
 (BV N p0).bind fun v1 =>
 AF ((v1 != 0))
  (some ((⟨#[]⟩ : ByteArray), v1))
  (Bt (fun (v3 : Bool) =>
   AF v3
    (some ((⟨#[]⟩ : ByteArray), 7))
    (Bt (fun (v6 : Bool) =>
     AF v6
      (some ((⟨#[]⟩ : ByteArray), 1))
      ((Eu ((0 : Int) ≤ p1 ∧ (0 : Int) ≤ (wI .i64 (p1 + 1)) ∧ (p1).toNat ≤ ((wI .i64 (p1 + 1))).toNat ∧ ((wI .i64 (p1 + 1))).toNat ≤ p0.length)).bind fun _ =>
      (Dw N (((p0.drop (p1).toNat).take (((wI .i64 (p1 + 1))).toNat - (p1).toNat)))).bind fun v10 =>
      AF ((v10.2 != 0))
       (some ((⟨#[]⟩ : ByteArray), v10.2))
       ((Dl N p2).bind fun v12 =>
       (Eu (v12.size + ((⟨#[32]⟩ : ByteArray)).size ≤ 9223372036854775807)).bind fun _ =>
       (EG N p1).bind fun v14 =>
       (Eu (((v12 ++ (⟨#[32]⟩ : ByteArray))).size + v14.size ≤ 9223372036854775807)).bind fun _ =>
       (Eu ((((v12 ++ (⟨#[32]⟩ : ByteArray)) ++ v14)).size + ((⟨#[58, 32]⟩ : ByteArray)).size ≤ 9223372036854775807)).bind fun _ =>
       (BQ N v10.1 ((⟨#[10]⟩ : ByteArray))).bind fun v17 =>
       (Eu (((((v12 ++ (⟨#[32]⟩ : ByteArray)) ++ v14) ++ (⟨#[58, 32]⟩ : ByteArray))).size + v17.size ≤ 9223372036854775807)).bind fun _ =>
       some (((((v12 ++ (⟨#[32]⟩ : ByteArray)) ++ v14) ++ (⟨#[58, 32]⟩ : ByteArray)) ++ v17), 0))))
    fun j6 =>
    AF ((decide (p2 < 1)))
     (j6 true)
     (j6 (decide (5 < p2)))))
  fun j3 =>
  AF ((decide (p1 < 0)))
   (j3 true)
   (j3 (decide ((p0.length : Int) ≤ p1))))
def B0 (N : Nat) : Option Bool :=
 (Eu ((0 : Int) ≤ 3 ∧ 0 ≤ (3 : Int).toNat ∧ (3 : Int).toNat ≤ (([(Aa.mk 0 7 0 0 0 0 1 0 0 0 0), (Aa.mk 0 2 0 0 0 0 1 0 0 0 0), (Aa.mk 1 6 0 0 0 0 0 1 0 1 0), (Aa.mk 2 3 0 0 0 1 1 0 0 0 0)] : List Aa)).length)).bind fun _ =>
 (DN N ((Ad.mk (([2] : List Int)) (([0] : List Int)) (([1] : List Int)) (([] : List AU)))) (([1] : List Int)) (([(Au.mk 1 0 1), (Au.mk 2 0 0)] : List Au)) ((((([(Aa.mk 0 7 0 0 0 0 1 0 0 0 0), (Aa.mk 0 2 0 0 0 0 1 0 0 0 0), (Aa.mk 1 6 0 0 0 0 0 1 0 1 0), (Aa.mk 2 3 0 0 0 1 1 0 0 0 0)] : List Aa)).drop 0).take ((3 : Int).toNat - 0)))).bind fun v2 =>
 (Eu ((0 : Int) ≤ 3 ∧ 0 ≤ (3 : Int).toNat ∧ (3 : Int).toNat ≤ (([(Aa.mk 0 7 0 0 0 0 1 0 0 0 0), (Aa.mk 0 2 0 0 0 0 1 0 0 0 0), (Aa.mk 1 6 0 0 0 0 0 1 0 1 0), (Aa.mk 2 3 0 0 0 1 1 0 0 0 0)] : List Aa)).length)).bind fun _ =>
 (F6 N ((Ad.mk (([2] : List Int)) (([0] : List Int)) (([1] : List Int)) (([] : List AU)))) (([(Au.mk 1 0 1), (Au.mk 2 0 0)] : List Au)) ((((([(Aa.mk 0 7 0 0 0 0 1 0 0 0 0), (Aa.mk 0 2 0 0 0 0 1 0 0 0 0), (Aa.mk 1 6 0 0 0 0 0 1 0 1 0), (Aa.mk 2 3 0 0 0 1 1 0 0 0 0)] : List Aa)).drop 0).take ((3 : Int).toNat - 0)))).bind fun v4 =>
 (DN N ((Ad.mk (([2] : List Int)) (([0] : List Int)) (([1] : List Int)) (([] : List AU)))) (([1] : List Int)) (([(Au.mk 1 0 1), (Au.mk 2 0 0)] : List Au)) (([(Aa.mk 0 7 0 0 0 0 1 0 0 0 0), (Aa.mk 0 2 0 0 0 0 1 0 0 0 0), (Aa.mk 1 6 0 0 0 0 0 1 0 1 0), (Aa.mk 2 3 0 0 0 1 1 0 0 0 0)] : List Aa))).bind fun v5 =>
 (Cz N (([(Aa.mk 0 7 0 0 0 0 1 0 0 0 0), (Aa.mk 0 2 0 0 0 0 1 0 0 0 0), (Aa.mk 1 6 0 0 0 0 0 1 0 1 0), (Aa.mk 2 3 0 0 0 1 1 0 0 0 0)] : List Aa)) 3 2).bind fun v6 =>
 Bt (fun (v7 : Bool) =>
  some v7)
 fun j7 =>
 AF ((v2.2.2 == 15))
  (AF ((v4.2 == 0))
   (AF ((v5.2.2 == 0))
    (AF ((v6.2 == 0))
     (AF (((v4.1.fc.length : Int) == 1))
      ((BU v4.1.fc 0).bind fun v13 =>
      AF ((v13 == 1))
       (AF ((v5.1 == 3))
        (AF ((v5.2.1 == 2))
         (j7 (v6.1.toList == ((⟨#[111, 114, 100, 101, 114, 32, 51, 58, 32, 50, 32, 100, 111, 110, 101, 32, 49, 32, 49]⟩ : ByteArray)).toList))
         (j7 false))
        (j7 false))
       (j7 false))
      (j7 false))
     (j7 false))
    (j7 false))
   (j7 false))
  (j7 false)
def AQ (_ : Nat) (p0 : List Aa) : Option ((List Aa)) :=
 (Eu ((([] : List Aa)).length + p0.length ≤ Je)).bind fun _ =>
 some ((([] : List Aa)) ++ p0)
def A7 (_ : Nat) (p0 : Aa) : Option ((List Int)) :=
 AF ((p0.fd == 1))
  (some (([p0.fA, p0.fw, p0.fB] : List Int)))
  (AF ((p0.fd == 6))
   (some (([p0.fy, p0.fp, p0.fC] : List Int)))
   (AF ((p0.fd == 7))
    (some (([p0.fE, p0.fr] : List Int)))
    (some (([p0.fk, p0.fr] : List Int)))))
def Bm (_ : Nat) (p0 : Int) (p1 : Int) (p2 : List Int) : Option Aa :=
 Bt (fun (v1 : Int × Int × Int × Int × Int × Int × Int × Int × Int) =>
  some ((Aa.mk p0 p1 v1.1 v1.2.1 v1.2.2.1 v1.2.2.2.1 v1.2.2.2.2.1 v1.2.2.2.2.2.1 v1.2.2.2.2.2.2.1 v1.2.2.2.2.2.2.2.1 v1.2.2.2.2.2.2.2.2)))
 fun j1 =>
 AF ((p1 == 1))
  ((BU p2 0).bind fun v3 =>
  (BU p2 1).bind fun v4 =>
  (BU p2 2).bind fun v5 =>
  j1 (v3, v4, v5, 0, 0, 0, 0, 0, 0))
  (AF ((p1 == 6))
   ((BU p2 0).bind fun v7 =>
   (BU p2 1).bind fun v8 =>
   (BU p2 2).bind fun v9 =>
   j1 (0, 0, 0, 0, 0, v9, v7, v8, 0))
   (AF ((p1 == 7))
    ((BU p2 0).bind fun v11 =>
    (BU p2 1).bind fun v12 =>
    j1 (0, 0, 0, 0, v12, 0, 0, 0, v11))
    ((BU p2 0).bind fun v13 =>
    (BU p2 1).bind fun v14 =>
    j1 (0, 0, 0, v13, v14, 0, 0, 0, 0))))
def AZ (N : Nat) (v5 : (List Int)) (j6 : Unit → Option Bool) : Nat → Int → Option Bool
 | 0, _ => none
 | n6 + 1, v6 =>
  AF ((decide (v6 < (v5.length : Int))))
   ((BU v5 v6).bind fun v9 =>
   AF ((decide (v9 < 0)))
    (some false)
    (AZ N v5 j6 n6 (wI .i64 (v6 + 1))))
   (j6 ())
def BW (N : Nat) (p0 : Aa) : Option Bool :=
 Bt (fun (v1 : Bool) =>
  AF v1
   (some false)
   ((A7 N p0).bind fun v5 =>
   AZ N v5 (fun (_ : Unit) =>
    (Bm N p0.fh p0.fd v5).bind fun v11 =>
    some (((v11.fh == p0.fh) && ((v11.fd == p0.fd) && ((v11.fA == p0.fA) && ((v11.fw == p0.fw) && ((v11.fB == p0.fB) && ((v11.fk == p0.fk) && ((v11.fr == p0.fr) && ((v11.fC == p0.fC) && ((v11.fy == p0.fy) && ((v11.fp == p0.fp) && ((v11.fE == p0.fE) && true))))))))))))) N 0))
 fun j1 =>
 AF ((decide (p0.fd < 1)))
  (j1 true)
  (AF ((decide (7 < p0.fd)))
   (j1 true)
   (j1 (decide (p0.fh < 0))))
def Bb (N : Nat) (p0 : List Aa) (j2 : Unit → Option Int) : Nat → Int → Option Int
 | 0, _ => none
 | n2 + 1, v2 =>
  AF ((decide (v2 < (p0.length : Int))))
   (Bt (fun (v5 : Bool) =>
    AF v5
     (some 1)
     (Bb N p0 j2 n2 (wI .i64 (v2 + 1))))
   fun j5 =>
   (BU p0 v2).bind fun v6 =>
   (BW N v6).bind fun v7 =>
   AF ((!v7))
    (j5 true)
    (AF ((decide (0 < v2)))
     ((BU p0 v2).bind fun v10 =>
     (BU p0 ((wI .i64 (v2 - 1)))).bind fun v11 =>
     j5 (decide (v10.fh < v11.fh)))
     (j5 false)))
   (j2 ())
def Bx (N : Nat) (p0 : List Aa) : Option Int :=
 AF ((decide (10000 < (p0.length : Int))))
  (some 3)
  (Bb N p0 (fun (_ : Unit) =>
   some 0) N 0)
def By (_ : Nat) : Option ((List ByteArray)) :=
 some (([(⟨#[]⟩ : ByteArray), (⟨#[114, 101, 97, 100]⟩ : ByteArray), (⟨#[98, 101, 103, 105, 110]⟩ : ByteArray), (⟨#[100, 111, 110, 101]⟩ : ByteArray), (⟨#[97, 98, 111, 114, 116]⟩ : ByteArray), (⟨#[114, 101, 115, 117, 109, 101]⟩ : ByteArray), (⟨#[115, 119, 105, 116, 99, 104]⟩ : ByteArray), (⟨#[108, 101, 97, 115, 101]⟩ : ByteArray)] : List ByteArray))
def Bl (N : Nat) (v6 : (List Int)) (j7 : ByteArray → Option ByteArray) : Nat → (ByteArray × Int) → Option ByteArray
 | 0, _ => none
 | n7 + 1, v7 =>
  AF ((decide (v7.2 < (v6.length : Int))))
   ((Eu (v7.1.size + ((⟨#[32]⟩ : ByteArray)).size ≤ 9223372036854775807)).bind fun _ =>
   (BU v6 v7.2).bind fun v11 =>
   (Be N v11 10).bind fun v12 =>
   (Eu (((v7.1 ++ (⟨#[32]⟩ : ByteArray))).size + v12.size ≤ 9223372036854775807)).bind fun _ =>
   Bl N v6 j7 n7 (((v7.1 ++ (⟨#[32]⟩ : ByteArray)) ++ v12), (wI .i64 (v7.2 + 1))))
   (j7 v7.1)
def Cc (N : Nat) (p0 : Aa) : Option ByteArray :=
 (Be N p0.fh 10).bind fun v1 =>
 (Eu (v1.size + ((⟨#[32]⟩ : ByteArray)).size ≤ 9223372036854775807)).bind fun _ =>
 (By N).bind fun v3 =>
 (BU v3 p0.fd).bind fun v4 =>
 (Eu (((v1 ++ (⟨#[32]⟩ : ByteArray))).size + v4.size ≤ 9223372036854775807)).bind fun _ =>
 (A7 N p0).bind fun v6 =>
 Bl N v6 (fun (v8 : ByteArray) =>
  (Eu (v8.size + ((⟨#[10]⟩ : ByteArray)).size ≤ 9223372036854775807)).bind fun _ =>
  some ((v8 ++ (⟨#[10]⟩ : ByteArray)))) N (((v1 ++ (⟨#[32]⟩ : ByteArray)) ++ v4), 0)
def A6 (N : Nat) (p0 : List Aa) (j3 : ByteArray → Option (ByteArray × Int)) : Nat → (ByteArray × Int) → Option (ByteArray × Int)
 | 0, _ => none
 | n3 + 1, v3 =>
  AF ((decide (v3.2 < (p0.length : Int))))
   ((BU p0 v3.2).bind fun v6 =>
   (Cc N v6).bind fun v7 =>
   (Eu (v3.1.size + v7.size ≤ 9223372036854775807)).bind fun _ =>
   AF ((decide (65536 < (((v3.1 ++ v7)).size : Int))))
    (some ((⟨#[]⟩ : ByteArray), 3))
    (A6 N p0 j3 n3 ((v3.1 ++ v7), (wI .i64 (v3.2 + 1)))))
   (j3 v3.1)
def BP (N : Nat) (p0 : List Aa) : Option (ByteArray × Int) :=
 (Bx N p0).bind fun v1 =>
 AF ((v1 != 0))
  (some ((⟨#[]⟩ : ByteArray), v1))
  (A6 N p0 (fun (v4 : ByteArray) =>
   some (v4, 0)) N ((⟨#[]⟩ : ByteArray), 0))
def CM (_ : Nat) (rc : Int → Option ByteArray) (p0 : Int) : Option ByteArray :=
 AF ((decide (p0 < 10)))
  (some ((Utf8.encode ((wI .i32 ((wI .i64 (48 + p0))))))))
  ((rc ((wI .i64 (Int.tdiv p0 10)))).bind fun v2 =>
  (Eu (v2.size + ((Utf8.encode ((wI .i32 ((wI .i64 (48 + (Int.tmod p0 10)))))))).size ≤ 9223372036854775807)).bind fun _ =>
  some ((v2 ++ (Utf8.encode ((wI .i32 ((wI .i64 (48 + (Int.tmod p0 10))))))))))
def B5 (N : Nat) : Nat → Int → Option ByteArray
 | 0, _ => none
 | k + 1, p0 => CM N (B5 N k) p0
def BO (N : Nat) (p0 : Int) : Option ByteArray := B5 N N p0
def BN (N : Nat) (p0 : List Aa) (p1 : Int) (p2 : Int) : Option (ByteArray × Int) :=
 (Bx N p0).bind fun v1 =>
 AF ((v1 != 0))
  (some ((⟨#[]⟩ : ByteArray), v1))
  (Bt (fun (v3 : Bool) =>
   AF v3
    (some ((⟨#[]⟩ : ByteArray), 7))
    (Bt (fun (v6 : Bool) =>
     AF v6
      (some ((⟨#[]⟩ : ByteArray), 1))
      ((Eu ((0 : Int) ≤ p1 ∧ (0 : Int) ≤ (wI .i64 (p1 + 1)) ∧ (p1).toNat ≤ ((wI .i64 (p1 + 1))).toNat ∧ ((wI .i64 (p1 + 1))).toNat ≤ p0.length)).bind fun _ =>
      (BP N (((p0.drop (p1).toNat).take (((wI .i64 (p1 + 1))).toNat - (p1).toNat)))).bind fun v10 =>
      (BU (([(⟨#[114, 101, 97, 100]⟩ : ByteArray), (⟨#[111, 114, 100, 101, 114]⟩ : ByteArray), (⟨#[116, 111, 107, 101, 110]⟩ : ByteArray), (⟨#[115, 119, 105, 116, 99, 104]⟩ : ByteArray), (⟨#[109, 105, 120]⟩ : ByteArray)] : List ByteArray)) ((wI .i64 (p2 - 1)))).bind fun v11 =>
      (Eu (v11.size + ((⟨#[32]⟩ : ByteArray)).size ≤ 9223372036854775807)).bind fun _ =>
      (BO N p1).bind fun v13 =>
      (Eu (((v11 ++ (⟨#[32]⟩ : ByteArray))).size + v13.size ≤ 9223372036854775807)).bind fun _ =>
      (Eu ((((v11 ++ (⟨#[32]⟩ : ByteArray)) ++ v13)).size + ((⟨#[58, 32]⟩ : ByteArray)).size ≤ 9223372036854775807)).bind fun _ =>
      (Eu ((0 : Int) ≤ (wI .i64 ((v10.1.size : Int) - 1)) ∧ 0 ≤ ((wI .i64 ((v10.1.size : Int) - 1))).toNat ∧ ((wI .i64 ((v10.1.size : Int) - 1))).toNat ≤ v10.1.size)).bind fun _ =>
      (Eu (((((v11 ++ (⟨#[32]⟩ : ByteArray)) ++ v13) ++ (⟨#[58, 32]⟩ : ByteArray))).size + ((v10.1.extract 0 (((wI .i64 ((v10.1.size : Int) - 1))).toNat))).size ≤ 9223372036854775807)).bind fun _ =>
      some (((((v11 ++ (⟨#[32]⟩ : ByteArray)) ++ v13) ++ (⟨#[58, 32]⟩ : ByteArray)) ++ (v10.1.extract 0 (((wI .i64 ((v10.1.size : Int) - 1))).toNat))), 0)))
    fun j6 =>
    AF ((decide (p2 < 1)))
     (j6 true)
     (j6 (decide (5 < p2)))))
  fun j3 =>
  AF ((decide (p1 < 0)))
   (j3 true)
   (j3 (decide ((p0.length : Int) ≤ p1))))
def Bh (N : Nat) (p0 : List Aa) (p1 : Int) (p2 : Int) : Option Bool :=
 Bt (fun (v1 : Bool) =>
  AF v1
   ((B0 N).bind fun v5 =>
   some v5)
   ((AQ N p0).bind fun v6 =>
   (Cz N v6 p1 p2).bind fun v7 =>
   (BN N p0 p1 p2).bind fun v8 =>
   Bt (fun (v9 : Bool) =>
    some v9)
   fun j9 =>
   AF ((v7.1.toList == v8.1.toList))
    (j9 (v7.2 == v8.2))
    (j9 false)))
 fun j1 =>
 (B0 N).bind fun v2 =>
 AF ((!v2))
  (j1 true)
  (j1 (decide (80 < (p0.length : Int))))
def Rg {α : Type} (w : α → Prop) (xs : List α) : Prop := ∀ x, x ∈ xs → w x
def Ec (n : Int) : Prop := (Lit.int .i64 n).wf = true
def C2 (x : Aa) : Prop := Ec x.fh ∧ Ec x.fd ∧ Ec x.fA ∧ Ec x.fw ∧ Ec x.fB ∧ Ec x.fk ∧ Ec x.fr ∧ Ec x.fC ∧ Ec x.fy ∧ Ec x.fp ∧ Ec x.fE ∧ True
open Go.RowKit
open Go.Proofs
abbrev AN (x : Aa) : List C := [iC x.fh, iC x.fd, iC x.fA, iC x.fw, iC x.fB, iC x.fk, iC x.fr, iC x.fC, iC x.fy, iC x.fp, iC x.fE]
abbrev Cq (x : Au) : List C := [iC x.fd, iC x.fk, iC x.fp]
abbrev Dh (x : AU) : List C := [iC x.fd, iC x.fF, iC x.fH, .pure (.val (.bool x.fJ)), sC (x.fI.map (Lz eB)), sC (x.fG.map (Lz eB))]
abbrev Aw (x : Ad) : List C := [sC (x.fi.map Aq), sC (x.fj.map Aq), sC (x.fm.map Aq), sC (x.fg.map A5)]
abbrev Bn (x : Aj) : List C := [sC (x.fe.map Aq), sC (x.fc.map Aq), sC (x.ff.map Dk)]
abbrev Ao (x : Ae) : List C := [sC (x.fa.fi.map Aq), sC (x.fa.fj.map Aq), sC (x.fa.fm.map Aq), sC (x.fa.fg.map A5), sC (x.fo.map AK), iC x.fh, iC x.fq, sC (x.fb.fe.map Aq), sC (x.fb.fc.map Aq), sC (x.fb.ff.map Dk)]
theorem Az : Tryz.prog.follows .mixedOrders = true := by kernel_rfl
theorem wq {X : EC} {y : Code} {id : Nat} {ops : Array Oper} {dr : Bool} {Q : Exit → St → Prop} {st : St} {n : Nat} (hn : ops.size = n) (h : AE uS X ops dr (fun st' => W uS X y Q st') n 0 st []) : W uS X (.seq (.region id ops dr) y) Q st := Sq Az hn h
theorem wp {X : EC} {y z : Code} {id : Nat} {ops : Array Oper} {dr : Bool} {Q : Exit → St → Prop} {st : St} {n : Nat} (hn : ops.size = n) (h : AE uS X ops dr (fun st' => W uS X y (JZ (W uS X z Q) Q) st') n 0 st []) : W uS X (.seq (.seq (.region id ops dr) y) z) Q st := AP (Sq Az hn h)
theorem HO : CQ uS 110 false = true := by kernel_rfl
theorem FK : CQ uS 112 true = true := by kernel_rfl
theorem J0 : CQ uS 113 false = true := by kernel_rfl
theorem Mu : CQ uS 125 false = true := by kernel_rfl
theorem Pa : CQ uS 164 false = true := by kernel_rfl
theorem Fm : CQ uS 2 false = true := by kernel_rfl
theorem Cl : CQ uS 22 false = true := by kernel_rfl
theorem Ix : CQ uS 23 false = true := by kernel_rfl
theorem Ed : CQ uS 25 true = true := by kernel_rfl
theorem Qb : CQ uS 26 false = true := by kernel_rfl
theorem Bc : CQ uS 3 false = true := by kernel_rfl
theorem Eb : CQ uS 37 true = true := by kernel_rfl
theorem JK : CQ uS 38 false = true := by kernel_rfl
theorem Ql : CQ uS 4 false = true := by kernel_rfl
theorem Cu : CQ uS 40 true = true := by kernel_rfl
theorem Iz : CQ uS 67 true = true := by kernel_rfl
theorem RN : CQ uS 9 false = true := by kernel_rfl
theorem NQ : Nj uS 209 8 9 = true := by kernel_rfl
theorem NM : Ei uS 113 1 = true := by kernel_rfl
theorem QY : Ei uS 3 8 = true := by kernel_rfl
theorem QK : Ei uS 37 88 = true := by kernel_rfl
theorem QD : Ei uS 40 72 = true := by kernel_rfl
theorem DY : AW uS 112 0 0 = true := by kernel_rfl
theorem DX : AW uS 112 1 1 = true := by kernel_rfl
theorem HG : AW uS 112 2 2 = true := by kernel_rfl
theorem NI : AW uS 112 3 3 = true := by kernel_rfl
theorem IT : AW uS 112 4 4 = true := by kernel_rfl
theorem FP : AW uS 112 5 5 = true := by kernel_rfl
theorem Lv : AW uS 166 0 0 = true := by kernel_rfl
theorem Ld : AW uS 166 1 1 = true := by kernel_rfl
theorem Lk : AW uS 166 2 2 = true := by kernel_rfl
theorem Ll : AW uS 166 3 3 = true := by kernel_rfl
theorem C5 : AW uS 25 0 0 = true := by kernel_rfl
theorem HH : AW uS 25 1 1 = true := by kernel_rfl
theorem Ms : AW uS 25 2 2 = true := by kernel_rfl
theorem Dp : AW uS 25 3 3 = true := by kernel_rfl
theorem Ev : AW uS 37 0 0 = true := by kernel_rfl
theorem Cs : AW uS 37 1 1 = true := by kernel_rfl
theorem Hw : AW uS 37 10 10 = true := by kernel_rfl
theorem Fn : AW uS 37 2 2 = true := by kernel_rfl
theorem Fs : AW uS 37 3 3 = true := by kernel_rfl
theorem Gb : AW uS 37 4 4 = true := by kernel_rfl
theorem HD : AW uS 37 5 5 = true := by kernel_rfl
theorem Do : AW uS 37 6 6 = true := by kernel_rfl
theorem Ha : AW uS 37 7 7 = true := by kernel_rfl
theorem F8 : AW uS 37 8 8 = true := by kernel_rfl
theorem HN : AW uS 37 9 9 = true := by kernel_rfl
theorem D2 : AW uS 40 0 0 = true := by kernel_rfl
theorem CK : AW uS 40 1 1 = true := by kernel_rfl
theorem Ew : AW uS 40 2 2 = true := by kernel_rfl
theorem DW : AW uS 67 0 0 = true := by kernel_rfl
theorem Dg : AW uS 67 1 1 = true := by kernel_rfl
theorem G6 : AW uS 67 2 2 = true := by kernel_rfl
theorem Kq : AW uS 81 0 0 = true := by kernel_rfl
theorem Ko : AW uS 81 1 4 = true := by kernel_rfl
theorem G8 : AW uS 81 2 5 = true := by kernel_rfl
theorem Fr : AW uS 81 3 6 = true := by kernel_rfl
theorem HT : AW uS 81 4 7 = true := by kernel_rfl
theorem Mb : Av uS 102 = true := by kernel_rfl
theorem RD : Av uS 103 = true := by kernel_rfl
theorem PB : Av uS 106 = true := by kernel_rfl
theorem Rx : Av uS 107 = true := by kernel_rfl
theorem RI : Av uS 108 = true := by kernel_rfl
theorem QU : Av uS 109 = true := by kernel_rfl
theorem RK : Av uS 11 = true := by kernel_rfl
theorem QG : Av uS 110 = true := by kernel_rfl
theorem Ra : Av uS 111 = true := by kernel_rfl
theorem RM : Av uS 112 = true := by kernel_rfl
theorem RJ : Av uS 113 = true := by kernel_rfl
theorem RH : Av uS 114 = true := by kernel_rfl
theorem Np : Av uS 115 = true := by kernel_rfl
theorem QB : Av uS 116 = true := by kernel_rfl
theorem NT : Av uS 117 = true := by kernel_rfl
theorem Pv : Av uS 119 = true := by kernel_rfl
theorem Po : Av uS 120 = true := by kernel_rfl
theorem Qx : Av uS 121 = true := by kernel_rfl
theorem QQ : Av uS 122 = true := by kernel_rfl
theorem RL : Av uS 123 = true := by kernel_rfl
theorem L7 : Av uS 125 = true := by kernel_rfl
theorem Rk : Av uS 127 = true := by kernel_rfl
theorem RB : Av uS 128 = true := by kernel_rfl
theorem Rd : Av uS 13 = true := by kernel_rfl
theorem R8 : Av uS 14 = true := by kernel_rfl
theorem QR : Av uS 144 = true := by kernel_rfl
theorem Pm : Av uS 145 = true := by kernel_rfl
theorem Q5 : Av uS 147 = true := by kernel_rfl
theorem Q4 : Av uS 148 = true := by kernel_rfl
theorem NV : Av uS 149 = true := by kernel_rfl
theorem QE : Av uS 150 = true := by kernel_rfl
theorem Pj : Av uS 151 = true := by kernel_rfl
theorem Pg : Av uS 152 = true := by kernel_rfl
theorem Pq : Av uS 153 = true := by kernel_rfl
theorem Pf : Av uS 154 = true := by kernel_rfl
theorem Rw : Av uS 155 = true := by kernel_rfl
theorem Re : Av uS 157 = true := by kernel_rfl
theorem Sa : Av uS 16 = true := by kernel_rfl
theorem Qw : Av uS 173 = true := by kernel_rfl
theorem RG : Av uS 174 = true := by kernel_rfl
theorem QN : Av uS 175 = true := by kernel_rfl
theorem Qp : Av uS 176 = true := by kernel_rfl
theorem Q7 : Av uS 177 = true := by kernel_rfl
theorem Rb : Av uS 178 = true := by kernel_rfl
theorem RA : Av uS 179 = true := by kernel_rfl
theorem RE : Av uS 180 = true := by kernel_rfl
theorem Qv : Av uS 189 = true := by kernel_rfl
theorem Rp : Av uS 19 = true := by kernel_rfl
theorem QM : Av uS 190 = true := by kernel_rfl
theorem Rz : Av uS 191 = true := by kernel_rfl
theorem QJ : Av uS 192 = true := by kernel_rfl
theorem Rh : Av uS 193 = true := by kernel_rfl
theorem Pp : Av uS 197 = true := by kernel_rfl
theorem Qm : Av uS 198 = true := by kernel_rfl
theorem QI : Av uS 199 = true := by kernel_rfl
theorem Sk : Av uS 20 = true := by kernel_rfl
theorem Qn : Av uS 200 = true := by kernel_rfl
theorem Q8 : Av uS 33 = true := by kernel_rfl
theorem Sd : Av uS 35 = true := by kernel_rfl
theorem R5 : Av uS 39 = true := by kernel_rfl
theorem P2 : Av uS 43 = true := by kernel_rfl
theorem RW : Av uS 44 = true := by kernel_rfl
theorem R1 : Av uS 45 = true := by kernel_rfl
theorem So : Av uS 46 = true := by kernel_rfl
theorem R3 : Av uS 47 = true := by kernel_rfl
theorem Sj : Av uS 48 = true := by kernel_rfl
theorem Qu : Av uS 49 = true := by kernel_rfl
theorem OL : Av uS 59 = true := by kernel_rfl
theorem RT : Av uS 62 = true := by kernel_rfl
theorem Sl : Av uS 64 = true := by kernel_rfl
theorem Sf : Av uS 66 = true := by kernel_rfl
theorem Sb : Av uS 70 = true := by kernel_rfl
theorem RZ : Av uS 71 = true := by kernel_rfl
theorem QL : Av uS 72 = true := by kernel_rfl
theorem Si : Av uS 73 = true := by kernel_rfl
theorem Oe : Av uS 80 = true := by kernel_rfl
theorem QC : Av uS 81 = true := by kernel_rfl
theorem QF : Av uS 82 = true := by kernel_rfl
theorem R9 : Av uS 86 = true := by kernel_rfl
theorem RY : Av uS 92 = true := by kernel_rfl
theorem R0 : Av uS 93 = true := by kernel_rfl
theorem Q2 : JJ uS 21 .i32 = true := by kernel_rfl
theorem Pu : JJ uS 214 .u64 = true := by kernel_rfl
theorem Mn : JJ uS 234 .u64 = true := by kernel_rfl
theorem L9 : JJ uS 242 .u32 = true := by kernel_rfl
theorem Sp : JJ uS 3 .i64 = true := by kernel_rfl
theorem Ry : Tryz.prog.underlying 3 = some (.int .i64) := by kernel_rfl
theorem LW : Tryz.prog.underlying 164 = some (.map 3 3) := by kernel_rfl
theorem QP : ET uS 166 = some [(0, 1), (1, 1), (2, 1), (3, 1)] := by kernel_rfl
theorem RU : ET uS 25 = some [(0, 1), (1, 1), (2, 1), (3, 1)] := by kernel_rfl
theorem MW : ET uS 37 = some [(0, 1), (1, 1), (2, 1), (3, 1), (4, 1), (5, 1), (6, 1), (7, 1), (8, 1), (9, 1), (10, 1)] := by kernel_rfl
theorem IL : ET uS 40 = some [(0, 1), (1, 1), (2, 1)] := by kernel_rfl
theorem PM : ET uS 67 = some [(0, 1), (1, 1), (2, 1)] := by kernel_rfl
theorem Qy : ET uS 81 = some [(0, 4), (4, 1), (5, 1), (6, 1), (7, 3)] := by kernel_rfl
theorem Pr : OW uS 37 = some [0, 0, 0, 0, 0, 0, 0, 0, 0, 0, 0] := by kernel_rfl
theorem Fz : sliceB uS 110 125 = true := by kernel_rfl
theorem KI : sliceB uS 125 4 = true := by kernel_rfl
theorem Jn : sliceB uS 135 40 = true := by kernel_rfl
theorem Ba : sliceB uS 167 2 = true := by kernel_rfl
theorem AL : sliceB uS 22 3 = true := by kernel_rfl
theorem EN : sliceB uS 23 112 = true := by kernel_rfl
theorem HK : sliceB uS 26 67 = true := by kernel_rfl
theorem CH : sliceB uS 27 37 = true := by kernel_rfl
theorem E1 : sliceB uS 38 113 = true := by kernel_rfl
theorem Kc : sliceB uS 89 9 = true := by kernel_rfl
theorem Rt : (Tryz.prog.underlying 21).isSome = true := by kernel_rfl
theorem Pc : (Tryz.prog.underlying 214).isSome = true := by kernel_rfl
theorem Nk : (Tryz.prog.underlying 234).isSome = true := by kernel_rfl
theorem Mq : (Tryz.prog.underlying 242).isSome = true := by kernel_rfl
theorem RQ : (Tryz.prog.underlying 3).isSome = true := by kernel_rfl
theorem Ss : (Tryz.prog.underlying 5).isSome = true := by kernel_rfl
theorem HW : HP uS 9 = true := by kernel_rfl
theorem CP : EI uS 112 6 = true := by kernel_rfl
theorem Ff : EI uS 113 1 = true := by kernel_rfl
theorem Mg : EI uS 125 1 = true := by kernel_rfl
theorem Gq : EI uS 2 1 = true := by kernel_rfl
theorem Rq : EI uS 209 8 = true := by kernel_rfl
theorem D1 : EI uS 25 4 = true := by kernel_rfl
theorem Da : EI uS 3 1 = true := by kernel_rfl
theorem Cb : EI uS 37 11 = true := by kernel_rfl
theorem RO : EI uS 4 1 = true := by kernel_rfl
theorem A2 : EI uS 40 3 = true := by kernel_rfl
theorem F2 : EI uS 67 3 = true := by kernel_rfl
theorem Ph : EI uS 9 1 = true := by kernel_rfl
theorem Jt : B3 uS 112 = some (.agg #[.int .i64 0, .int .i64 0, .int .i64 0, .bool false, .slice none 0 0, .slice none 0 0]) := by kernel_rfl
theorem MZ : B3 uS 113 = some (.int .u8 0) := by kernel_rfl
theorem Q6 : B3 uS 166 = some (.agg #[.int .i64 0, .int .i64 0, .bool false, .map none]) := by kernel_rfl
theorem Pz : B3 uS 2 = some (.int .i64 0) := by kernel_rfl
theorem Pe : B3 uS 209 = some (.agg #[.string ⟨#[]⟩, .string ⟨#[]⟩, .string ⟨#[]⟩, .string ⟨#[]⟩, .string ⟨#[]⟩, .string ⟨#[]⟩, .string ⟨#[]⟩, .string ⟨#[]⟩]) := by kernel_rfl
theorem Qt : B3 uS 25 = some (.agg #[.slice none 0 0, .slice none 0 0, .slice none 0 0, .slice none 0 0]) := by kernel_rfl
theorem N6 : B3 uS 3 = some (.int .i64 0) := by kernel_rfl
theorem Hd : B3 uS 37 = some (.agg #[.int .i64 0, .int .i64 0, .int .i64 0, .int .i64 0, .int .i64 0, .int .i64 0, .int .i64 0, .int .i64 0, .int .i64 0, .int .i64 0, .int .i64 0]) := by kernel_rfl
theorem DM : B3 uS 40 = some (.agg #[.slice none 0 0, .slice none 0 0, .slice none 0 0]) := by kernel_rfl
theorem MP : B3 uS 67 = some (.agg #[.int .i64 0, .int .i64 0, .int .i64 0]) := by kernel_rfl
theorem Q9 : B3 uS 81 = some (.agg #[.slice none 0 0, .slice none 0 0, .slice none 0 0, .slice none 0 0, .slice none 0 0, .int .i64 0, .int .i64 0, .slice none 0 0, .slice none 0 0, .slice none 0 0]) := by kernel_rfl
theorem Sn : B3 uS 9 = some (.string ⟨#[]⟩) := by kernel_rfl
end Go.Lift
