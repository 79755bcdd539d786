/- Lemmas for AuditLongerCardSaid, which YtfgobbnahihlfaaGreatDoorFinA7 proves. -/
import Derived.Test.YtfgobbnahihlfaaGreatDoorLift16
import Derived.ProofKit
import Derived.Shelf.SlSortCmp.NoneTotal
import Derived.MakeChecks
import Derived.Shelf.Strconv.Itoa3
import Derived.Shelf.Spec.TrailingZeros
import Derived.Shelf.SlLaysF
import Derived.Shelf.Strconv.Itoa4
import Derived.Laws.Runes
import Derived.Shelf.Strings.Builder1
import Derived.Deep.LoopGhost
import Derived.Deep.DeepFit
import Derived.Deep.Onto
import Derived.WalkKit
import Derived.Shelf.Spec.SlicesInsert
import Derived.Test.YtfgobbnahihlfaaGreatDoorProg
import Derived.KernelRfl
open Array renaming getElem?_append → zF9, getElem?_eq_none → vZ, getElem?_eq_some_iff → zF0, length_toList → zD0, replicate → zD9
open Bool renaming and_eq_true → uT, and_eq_true_iff → zC0, not_eq_true' → zC4, not_true → vF, or_eq_true → zB2, true_and → vG
open List renaming all_cons → zA7, all_eq_true → uU, any_cons → zE5, drop_eq_nil_of_le → vJ, eq_nil_of_length_eq_zero → zB1, getElem?_append_left → zA1, getElem?_append_right → vY, getElem?_drop → zA5, getElem?_eq_getElem → vK, getElem?_map → uY, getElem?_take_of_lt → vM, length → zC9, length_cons → zB6, length_map → vO, length_take → zC6, map_cons → vU, map_nil → zF1, map_toArray → zD7, mem_cons → vT, mem_iff_getElem? → vI, mem_map → zB0, nodup_cons → zB5, range → vX, range' → zD5, replicate → vC
open Nat renaming add_assoc → zC1, add_mul → zA6, ble → zB9, ble_eq_true_of_le → zC7, blt_eq → zC3, le_of_ble_eq_true → vP, le_refl → zB8, le_trans → zE3, lt_or_ge → vW, min → zA4, mul_le_mul_right → uV, succ_mul → zA2, zero_add → uZ, zero_le → vN
open Option renaming getD_some → vV, map_some → zB3
open Go.Proofs.Tryz renaming prog → uS
namespace Go.Lift
open Go.RowKit
variable {P : Program} {X : F6} {ops : Array Oper}
def Hm (P : Program) : Nat → List Field → Option (List Nat)
 | _, [] => some []
 | k, f :: fs => if f.name == "_" || f.offset != k then none else match P.underlying f.type with
  | some (.int _) => (Hm P (k + 1) fs).map (0 :: ·)
  | some .bool => (Hm P (k + 1) fs).map (1 :: ·)
  | some .string => (Hm P (k + 1) fs).map (2 :: ·)
  | _ => none
def Tm (P : Program) (t : TypeId) : Option (List Nat) :=
 match P.underlying t with
 | some (.struct fs) => if P.stoodInHeld t || P.eqGuardType P.depth t then none else Hm P 0 fs.toList
 | _ => none
def D6 : List Nat → List Value → List Value → Option Bool
 | [], [], [] => some true
 | 0 :: ts, .int k a :: ar, .int k' b :: bs => if k = k' then (D6 ts ar bs).map (fun r => (a == b) && r) else none
 | 1 :: ts, .bool a :: ar, .bool b :: bs => (D6 ts ar bs).map (fun r => (a == b) && r)
 | 2 :: ts, .string a :: ar, .string b :: bs => (D6 ts ar bs).map (fun r => (a.toList == b.toList) && r)
 | _, _, _ => none
theorem R7 {ts : List Nat} {ar bs : List Value} {r : Bool} (h : D6 (0 :: ts) ar bs = some r) : ∃ k a ar' b bs' r', ar = .int k a :: ar' ∧ bs = .int k b :: bs' ∧ D6 ts ar' bs' = some r' ∧ r = ((a == b) && r') := by
 unfold D6 at h
 split at h <;> try (exfalso; simp_all; done)
 rename_i ts' k a ar' k' b bs' e
 cases e
 split at h
 ·rename_i e; subst e
  cases hel : D6 ts ar' bs' with
  | none => rw [hel] at h; cases h
  | some r' =>
   rw [hel] at h
   exact ⟨k, a, ar', b, bs', r', rfl, rfl, hel, by simpa using h.symm⟩
 ·cases h
theorem QX {ts : List Nat} {ar bs : List Value} {r : Bool} (h : D6 (1 :: ts) ar bs = some r) : ∃ a ar' b bs' r', ar = .bool a :: ar' ∧ bs = .bool b :: bs' ∧ D6 ts ar' bs' = some r' ∧ r = ((a == b) && r') := by
 unfold D6 at h
 split at h <;> try (exfalso; simp_all; done)
 rename_i ts' a ar' b bs' e
 cases e
 cases hel : D6 ts ar' bs' with
 | none => rw [hel] at h; cases h
 | some r' =>
  rw [hel] at h
  exact ⟨a, ar', b, bs', r', rfl, rfl, hel, by simpa using h.symm⟩
theorem Sb {ts : List Nat} {ar bs : List Value} {r : Bool} (h : D6 (2 :: ts) ar bs = some r) : ∃ a ar' b bs' r', ar = .string a :: ar' ∧ bs = .string b :: bs' ∧ D6 ts ar' bs' = some r' ∧ r = ((a.toList == b.toList) && r') := by
 unfold D6 at h
 split at h <;> try (exfalso; simp_all; done)
 rename_i ts' a ar' b bs' e
 cases e
 cases hel : D6 ts ar' bs' with
 | none => rw [hel] at h; cases h
 | some r' =>
  rw [hel] at h
  exact ⟨a, ar', b, bs', r', rfl, rfl, hel, by simpa using h.symm⟩
theorem Mq {t : TypeId} (h : D1 P t false = true) {cs : Array Value} {off : Nat} {v : Value} (hv : cs[off]? = some v) (w : World) : (part t cs off).run P w = .ok v w := by
 unfold part
 refine Ag (GA h w) ?_
 simp only [Bool.false_eq_true, if_false, hv]
 rfl
theorem Lv (d : Nat) (xs ys : Array Value) (w : World) : ∀ (fs : List Field) (ts : List Nat) (k : Nat) (ar bs : List Value) (r : Bool), Hm P k fs = some ts → (∀ (j : Nat) (v : Value), ar[j]? = some v → xs[k + j]? = some v) → (∀ (j : Nat) (v : Value), bs[j]? = some v → ys[k + j]? = some v) → D6 ts ar bs = some r →
  (Op.eqFields (d + 1) xs ys fs).run P w = .ok r w
 | [], ts, k, ar, bs, r, ht, hx, hy, he => by
  cases ht
  cases ar <;> cases bs <;> simp [D6] at he
  subst he; rfl
 | f :: fs, ts, k, ar, bs, r, ht, hx, hy, he => by
  simp only [Hm] at ht
  split at ht
  ·cases ht
  ·rename_i hn
   simp only [zB2, not_or, beq_iff_eq, bne_iff_ne, ne_eq, Decidable.not_not] at hn
   obtain ⟨hn1, hn2⟩ := hn
   subst hn2
   have step : ∀ (ts' : List Nat) (a b : Value) (ar' bs' : List Value) (q r' : Bool), ar = a :: ar' → bs = b :: bs' → Hm P (f.offset + 1) fs = some ts' → D6 ts' ar' bs' = some r' → D1 P f.type false = true → (Op.equalIn (d + 1) f.type a b).run P w = .ok q w →
     (Op.eqFields (d + 1) xs ys (f :: fs)).run P w = .ok (q && r') w := by
    intro ts' a b ar' bs' q r' ha hb htl hel hag heq
    subst ha; subst hb
    have h1 : xs[f.offset]? = some a := hx 0 a rfl
    have h2 : ys[f.offset]? = some b := hy 0 b rfl
    simp only [Op.eqFields, hn1, ne_eq, not_false_eq_true, if_true]
    refine Ag (Mq hag h1 w) (Ag (Mq hag h2 w) (Ag heq ?_))
    cases q
    ·simp
    ·simp only [vF, Bool.false_eq_true, if_false, vG]
     exact Lv d xs ys w fs ts' (f.offset + 1) ar' bs' r' htl (fun j v hj => by rw [show f.offset + 1 + j = f.offset + (j + 1) from by omega]; exact hx (j + 1) v hj) (fun j v hj => by rw [show f.offset + 1 + j = f.offset + (j + 1) from by omega]; exact hy (j + 1) v hj) hel
   split at ht
   ·rename_i kk hu
    cases htl : Hm P (f.offset + 1) fs with
    | none => rw [htl] at ht; cases ht
    | some ts' =>
     rw [htl] at ht; cases ht
     obtain ⟨k1, a1, ar', b1, bs', r', e1, e2, hel, rfl⟩ := R7 he
     subst e1; subst e2
     exact step ts' _ _ ar' bs' _ r' rfl rfl htl hel (by unfold D1; rw [hu]; rfl) (run_equalIn_int w d f.type k1 kk a1 b1 hu)
   ·rename_i hu
    cases htl : Hm P (f.offset + 1) fs with
    | none => rw [htl] at ht; cases ht
    | some ts' =>
     rw [htl] at ht; cases ht
     obtain ⟨a1, ar', b1, bs', r', e1, e2, hel, rfl⟩ := QX he
     subst e1; subst e2
     exact step ts' _ _ ar' bs' _ r' rfl rfl htl hel (by unfold D1; rw [hu]; rfl) (run_equalIn_bool' w d f.type a1 b1 hu)
   ·rename_i hu
    cases htl : Hm P (f.offset + 1) fs with
    | none => rw [htl] at ht; cases ht
    | some ts' =>
     rw [htl] at ht; cases ht
     obtain ⟨a1, ar', b1, bs', r', e1, e2, hel, rfl⟩ := Sb he
     subst e1; subst e2
     exact step ts' _ _ ar' bs' _ r' rfl rfl htl hel (by unfold D1; rw [hu]; rfl) (run_equalIn_string w d f.type a1 b1 hu)
   ·cases ht
theorem NF {t : TypeId} {ts : List Nat} (h : Tm P t = some ts) {ar bs : List Value} {r : Bool} (hr : D6 ts ar bs = some r) (w : World) :
  (Op.equalIn 10000 t (.agg ar.toArray) (.agg bs.toArray)).run P w = .ok r w ∧ P.eqGuardType P.depth t = false := by
 unfold Tm at h
 split at h
 ·rename_i fs hu
  split at h
  ·cases h
  ·rename_i hn
   simp only [zB2, not_or, Bool.not_eq_true] at hn
   have hf : P.fieldsOf t = fs := by unfold Program.fieldsOf; rw [hu]
   refine ⟨?_, hn.2⟩
   rw [run_equalIn_struct w 9999 t _ _ (by rw [hf]; exact hu) hn.1, hf]
   exact Lv 9998 _ _ w fs.toList ts 0 ar bs r h (fun j v hj => by simpa using hj) (fun j v hj => by simpa using hj) hr
 ·cases h
abbrev aD (ar : List Value) : D := .e (.agg (ar.map fun v => .pure (.val v)))
theorem RQ {w : World} {G : Gh} {v : Value} {ar : List Value} (h : FK P w G v (aD ar)) : v = .agg ar.toArray := by
 obtain ⟨vs, rfl, hs, h⟩ := h
 congr 1
 have hs' : vs.size = ar.length := by simpa using hs
 apply Array.ext
 ·simpa using hs'
 ·intro j h1 h2
  have hj : j < ar.length := by omega
  have : D0 P w G (Au vs j) (.pure (.val ar[j])) := h j _ (by simp [hj])
  have h3 := CH (this : Ci w G.S _ (.val _))
  simpa [Au, h1] using h3
section run
variable {dr : Bool} {Q : St → Prop} {r i : Nat} {st : St} {log : List (Nat × BU)} {o : Oper} {gs : List (Operand × D)}
theorem TS {xt yt : TypeId} {x y : Operand} {s : Nat} {ts : List Nat} {b : Bool} (ar bs : List Value) (hat : At st.env ops i X.n (.binOp .eql xt x y yt) s gs)
  (hx : opd st.env x = some (aD ar)) (hy : opd st.env y = some (aD bs)) (ht : Tm P xt = some ts) (he : D6 ts ar bs = some b)
  (next : A1 P X ops dr Q r (i + 1) (BU.upd ⟨gs ++ [(x, aD ar), (y, aD bs)], [], some s, some (bD b), [], []⟩ st) ((i, ⟨gs ++ [(x, aD ar), (y, aD bs)], [], some s, some (bD b), [], []⟩) :: log)) : A1 P X ops dr Q (r + 1) i st log := by
 obtain ⟨o, ho, hop, hd, hn, hg, hgp⟩ := hat.out
 refine A1.step next ⟨Aj.2 ⟨hgp, hx, hy, trivial⟩, trivial, trivial⟩ (LR.value ho hg rfl hd.symm (CM hd hn) ?_)
 intro G st a w hs hpre
 obtain ⟨hx, hy, _⟩ := (Aj.1 hpre.r).2
 have hX := RQ (hs.opd hx)
 have hY := RQ (hs.opd hy)
 obtain ⟨h1, h2⟩ := NF ht he w
 refine ⟨.bool b, w, G, ?_, hs, ?_⟩
 ·simp only [execOp, hop, hX, hY]
  refine Ag (a := .bool b) (w1 := w) (Ag (run_eqGuard_agg w .eql xt x y _ _ h2) ?_) rfl
  rw [run_eql_struct, h1]; rfl
 ·rintro d ⟨⟩
  exact ⟨.val _ rfl, fun b hb => by cases hb⟩
theorem Na {xt yt : TypeId} {x : Operand} {s e : Nat} {rows : List (List T)} (hat : At st.env ops i X.n (.binOp .eql xt x (.const (.slice none 0 0)) yt) s gs)
  (hx : opd st.env x = some (one (.sl rows))) (ht : sliceB P xt e = true)
  (next : A1 P X ops dr Q r (i + 1) (BU.upd ⟨gs ++ [(x, one (.sl rows))], [], some s, some (.e (.one (.nilq (rows = [])))), [], []⟩ st) ((i, ⟨gs ++ [(x, one (.sl rows))], [], some s, some (.e (.one (.nilq (rows = [])))), [], []⟩) :: log)) : A1 P X ops dr Q (r + 1) i st log := by
 obtain ⟨o, ho, hop, hd, hn, hg, hgp⟩ := hat.out
 refine A1.step next ⟨Aj.2 ⟨hgp, hx, trivial⟩, trivial, trivial⟩ (LR.value ho hg rfl hd.symm (CM hd hn) ?_)
 intro G st a w hs hpre
 obtain ⟨hx, _⟩ := (Aj.1 hpre.r).2
 have hX : Ci w G.S (a.eval x) (.sl rows) := hs.opd hx
 obtain ⟨av, l, c, hv, hq⟩ : ∃ av l c, a.eval x = .slice av l c ∧ (av.isNone = true → rows = []) := by
  generalize a.eval x = v at hX
  cases hX with
  | nil av cap => exact ⟨av, 0, cap, rfl, fun _ => rfl⟩
  | sl β off cap e arr el fz rows h1 h2 h3 h4 h5 h6 => exact ⟨_, _, _, rfl, fun h => by cases h⟩
 have hu : P.underlying xt = some (.slice e) := by
  unfold sliceB at ht
  split at ht
  ·rename_i e' he; rw [he]; simp at ht; rw [ht]
  ·cases ht
 refine ⟨.bool av.isNone, w, G, ?_, hs, ?_⟩
 ·simp only [execOp, hop, hv]
  refine Ag (a := .bool av.isNone) (w1 := w) (Ag (a := ()) (w1 := w) (by simp [eqGuard]) ?_) rfl
  have h1 : (Op.equalIn (9999 + 1) xt (.slice av l c) (.slice none 0 0)).run P w = .ok av.isNone w := by
   generalize 9999 = dd
   cases av <;> (unfold Op.equalIn; exact Ag (AC hu w) rfl)
  simp only [binOp, Act.eval]
  refine Ag (a := av.isNone) (w1 := w) ?_ rfl
  exact h1
 ·rintro d ⟨⟩
  exact ⟨⟨_, rfl, hq⟩, fun b hb => by cases hb⟩
end run
theorem Ni {c : Operand} {x y : Code} {Q : Exit → St → Prop} {st : St} {p : Prop} (hc : opd st.env c = some (.e (.one (.nilq p)))) (ht : p → W P X x Q st) (hf : W P X y Q st) : W P X (.cond c x y) Q st := by
 intro a w hs
 obtain ⟨b, hcv, hp⟩ : ∃ b, a.eval c = .bool b ∧ (b = true → p) := by
  obtain ⟨G, hs⟩ := hs
  exact hs.opd hc
 cases b with
 | true => exact wp_cond_true hcv (ht (hp rfl) a w hs)
 | false => exact wp_cond_false hcv (hf a w hs)
end Go.Lift
namespace Go.Lift
open List renaming mem_of_getElem? → lM
open Go.RowKit
variable {P : Program} {X : F6} {ops : Array Oper}
def Oz : Bool × List T → D
 | (true, ts) => .e (.agg (ts.map .pure))
 | (false, ts) => .e (.one (.pure (ts.headD .nil0)))
def TG : Bool × List T → Bool
 | (true, _) => true
 | (false, ts) => match ts with | [_] => true | _ => false
theorem UD {w : World} {S : Nat → Prop} {G : Gh} {v : Value} {x : Bool × List T} (h : FK P w G v (Oz x)) (hS : ∀ β, G.S β → S β) (hx : TG x = true) : UM w S v x := by
 obtain ⟨b, ts⟩ := x
 cases b with
 | false =>
  match ts, hx with
  | [t], _ => exact ⟨t, rfl, Ci.mono (show Ci w G.S v t from h) (fun _ _ => rfl) hS⟩
 | true =>
  obtain ⟨vs, e, hs, h⟩ := h
  refine ⟨vs, e, by simpa using hs, fun j t hj => ?_⟩
  have : D0 P w G (Au vs j) (.pure t) := h j (.pure t) (by simp [hj])
  exact Ci.mono this (fun _ _ => rfl) hS
theorem Rz {w : World} {S : Nat → Prop} {v : Value} {x : Bool × List T} (h : UM w S v x) : FK P w (G0 S) v (Oz x) := by
 obtain ⟨b, ts⟩ := x
 cases b with
 | false =>
  obtain ⟨t, rfl, h⟩ := h
  exact h
 | true =>
  obtain ⟨vs, e, hs, h⟩ := h
  refine ⟨vs, e, by simpa using hs, fun j c hj => ?_⟩
  rw [uY] at hj
  cases hx : ts[j]? with
  | none => rw [hx] at hj; cases hj
  | some t => rw [hx] at hj; cases hj; exact h j t hx
noncomputable def Ix {α ρ : Type} (ea : α → List (Bool × List T)) (er : ρ → T) (q : α → Option ρ) : List (Bool × List T) → Option T := fun ar =>
 open Classical in if h : ∃ x r, ea x = ar ∧ q x = some r then some (er (Classical.choose (Classical.choose_spec h))) else none
theorem IG {α ρ : Type} {ea : α → List (Bool × List T)} {er : ρ → T} {q : α → Option ρ} {ar : List (Bool × List T)} {t : T} (h : Ix ea er q ar = some t) : ∃ x r, ar = ea x ∧ q x = some r ∧ t = er r := by
 unfold Ix at h
 split at h
 ·rename_i hx
  cases h
  have := Classical.choose_spec (Classical.choose_spec hx)
  exact ⟨_, _, this.1.symm, this.2, rfl⟩
 ·cases h
theorem KQ {α ρ : Type} {ea : α → List (Bool × List T)} {er : ρ → T} {q : α → Option ρ} (inj : ∀ x y, ea x = ea y → x = y) {x : α} {r : ρ} (h : q x = some r) : Ix ea er q (ea x) = some (er r) := by
 have hx : ∃ y s, ea y = ea x ∧ q y = some s := ⟨x, r, rfl, h⟩
 unfold Ix
 rw [dif_pos hx]
 have h1 := Classical.choose_spec (Classical.choose_spec hx)
 have h2 := inj _ _ h1.1
 have h3 : q (Classical.choose hx) = some r := by rw [h2]; exact h
 exact congrArg (fun z => some (er z)) (Option.some.inj (h3.symm.trans h1.2)).symm
structure US {α β : Type} (f : α → β) : Prop where
 inj : ∀ x y, f x = f y → x = y
def MQ {α : Type} (b : Bool) (e : α → List T) (x : α) : List (Bool × List T) := [(b, e x)]
theorem KZ {α : Type} (b : Bool) (e : α → List T) (h : US e) : ∀ x y, MQ b e x = MQ b e y → x = y := by
 intro x y hxy
 simp only [MQ, List.cons.injEq, Prod.mk.injEq, true_and, and_true] at hxy
 exact h.inj _ _ hxy
theorem P9 {α β : Type} {f : α → β} (h : ∀ x y, f x = f y → x = y) : ∀ (xs ys : List α), xs.map f = ys.map f → xs = ys
 | [], [], _ => rfl
 | [], _ :: _, e => by cases e
 | _ :: _, [], e => by cases e
 | x :: xs, y :: ys, e => by
  simp only [vU, List.cons.injEq] at e
  rw [h _ _ e.1, P9 h _ _ e.2]
theorem NJ {f : FuncId} {g : List (Bool × List T) → Option T} (hf : Az P f = true) (hclo : ∀ ar t, g ar = some t → Aq P f (ar.map Oz) [] (one t)) {w : World} {S : Nat → Prop} {v : Value} (h : FK P w (G0 S) v (.e (.one (.fnc f)))) : FK P w (G0 S) v (.e (.one (.clo g))) := by
 refine ⟨f, #[], h, ?_, ?_⟩
 ·unfold Az at hf
  split at hf
  ·rename_i fn h0
   simp only [uT, zC4] at hf
   exact ⟨fn, h0, hf.2, hf.1⟩
  ·cases hf
 ·intro w' S' _ _ hlt hgk vs ar r0 hvs has hgr
  refine (hclo ar r0 hgr w' S' (vs ++ #[]) hlt hgk (by simp [hvs]) ?_).mono ?_
  ·intro j d hj
   rw [uY] at hj
   cases hx0 : ar[j]? with
   | none => rw [hx0] at hj; cases hj
   | some y =>
    rw [hx0] at hj; cases hj
    rw [Array.append_empty]
    exact Rz (has j y hx0)
  ·rintro e w'' ⟨v, G', rfl, hbel, h1, h2, h3, _⟩
   exact ⟨v, G'.S, rfl, hbel, h1, h2, h3⟩
def U9 (P : Program) : List D → List D → Prop
 | [], [] => True
 | a :: ar, b :: bs => (∀ (w : World) (S : Nat → Prop) (v : Value), FK P w (G0 S) v a → FK P w (G0 S) v b) ∧ U9 P ar bs
 | _, _ => False
theorem U9.get : ∀ {ar bs : List D}, U9 P ar bs → ar.length = bs.length ∧ ∀ (j : Nat) (b : D), bs[j]? = some b → ∃ a, ar[j]? = some a ∧ ∀ (w : World) (S : Nat → Prop) (v : Value), FK P w (G0 S) v a → FK P w (G0 S) v b
 | [], [], _ => ⟨rfl, fun j b h => by simp at h⟩
 | a :: ar, b :: bs, h => by
  obtain ⟨h1, h2⟩ := U9.get h.2
  refine ⟨by simp [h1], fun j c hj => ?_⟩
  cases j with
  | zero => simp at hj; subst hj; exact ⟨a, rfl, h.1⟩
  | succ j => obtain ⟨a', g1, g2⟩ := h2 j c (by simpa using hj); exact ⟨a', by simpa using g1, g2⟩
theorem Aq.weak {f : FuncId} {ds ds' : List D} {rv : List (Nat × List (List T))} {res : D} (h : Aq P f ds rv res) (hp : U9 P ds' ds) : Aq P f ds' rv res := by
 intro w S vs hS hgk hlen hargs
 obtain ⟨h1, h2⟩ := hp.get
 refine h w S vs hS hgk (by rw [hlen, h1]) fun j d hj => ?_
 obtain ⟨a, g1, g2⟩ := h2 j d hj
 exact g2 w S _ (hargs j a g1)
section run
variable {dr : Bool} {Q : St → Prop} {r i : Nat} {st : St} {log : List (Nat × BU)} {o : Oper} {gs : List (Operand × D)}
theorem Po {f : FuncId} (h : Az P f = true) : ∃ fn, P.funcs[f]? = some fn ∧ fn.body.isSome = true ∧ (fn.name == "runtime.NumGoroutine") = false := by
 unfold Az at h
 split at h
 ·rename_i fn hf
  simp only [uT, zC4] at h
  exact ⟨fn, hf, h.2, h.1⟩
 ·cases h
theorem Pj {f : FuncId} {s : Nat} {xs : List Operand} {capD : List D} (g : List (Bool × List T) → Option T) (hat : At st.env ops i X.n (.makeFunc (.func f) #[] xs.toArray) s gs)
  (hf : Az P f = true) (hl : xs.length = capD.length) (hx : DL st.env (FR xs capD)) (hpub : capD.all OL = true)
  (hclo : ∀ ar t, g ar = some t → Aq P f (ar.map Oz ++ capD) [] (one t))
  (next : A1 P X ops dr Q r (i + 1) (BU.upd ⟨gs ++ FR xs capD, [], some s, some (.e (.one (.clo g))), [], []⟩ st) ((i, ⟨gs ++ FR xs capD, [], some s, some (.e (.one (.clo g))), [], []⟩) :: log)) : A1 P X ops dr Q (r + 1) i st log := by
 obtain ⟨o, ho, hop, hd, hn, hg, hgp⟩ := hat.out
 refine A1.step next ⟨Aj.2 ⟨hgp, hx⟩, trivial, trivial⟩ (LR.value ho hg rfl hd.symm (CM hd hn) ?_)
 intro G st a w hs hpre
 have hx := (Aj.1 hpre.r).2
 refine ⟨.func (.func f) #[] (xs.toArray.map a.eval), w, G, ?_, hs, ?_⟩
 ·simp only [execOp, hop]
  exact Ag (a := .func (.func f) #[] (xs.toArray.map a.eval)) (w1 := w) (by simp [Instr.makeFunc]) rfl
 ·rintro d ⟨⟩
  refine ⟨⟨f, _, rfl, Po hf, ?_⟩, fun b hb => by cases hb⟩
  intro w' S' hS' hw' hlt hgk vs ar r0 hvs has hgr
  refine (hclo ar r0 hgr w' S' (vs ++ xs.toArray.map a.eval) hlt hgk (by simp [hvs, hl]) ?_).mono ?_
  ·intro j d hj
   by_cases hja : j < ar.length
   ·rw [zA1 (by simpa using hja), uY] at hj
    have hx0 : ar[j]? = some ar[j] := by simp [hja]
    rw [hx0] at hj; cases hj
    rw [Ct (by omega)]
    exact Rz (has j _ hx0)
   ·rw [vY (by simp; omega)] at hj
    simp only [vO] at hj
    have hlt' := AA hj
    have hxj : xs[j - ar.length]? = some (xs[j - ar.length]'(by omega)) := by simp [show j - ar.length < xs.length from by omega]
    have hop' := Hq hl hx _ _ d hxj hj
    have hcell : Au (vs ++ xs.toArray.map a.eval) j = a.eval (xs[j - ar.length]'(by omega)) := by
     unfold Au
     rw [Array.getElem?_append_right (by omega), hvs]
     simp [show j - ar.length < xs.length from by omega]
    rw [hcell]
    have hcl : d.names = [] := by
     have := uU.1 hpub d (lM hj)
     simpa [OL] using this
    exact ((hs.opd hop').mono (p := fun _ => False) (G' := G0 S') ⟨hS', fun _ h => h.elim, fun _ h => h.elim, fun _ h => h.elim⟩ hw' (fun b hb => by rw [hcl] at hb; cases hb))
  ·rintro e w'' ⟨v, G', rfl, hbel, h1, h2, h3, _⟩
   exact ⟨v, G'.S, rfl, hbel, h1, h2, h3⟩
theorem KY {x : Operand} {g : List (Bool × List T) → Option T} {s : Nat} {xs : List Operand} {ds0 : List D} {ar : List (Bool × List T)} {r0 : T} {ts : Array TypeId} (hat : At st.env ops i X.n (.call ⟨.value x, xs.toArray, ts⟩) s gs)
  (hgx : opd st.env x = some (.e (.one (.clo g)))) (hl : xs.length = ds0.length) (hx : DL st.env (FR xs ds0)) (hds : ds0.map D.nrm = ar.map Oz) (_hpub : (ar.map Oz).all OL = true) (hok : ar.all TG = true) (hr : g ar = some r0)
  (next : A1 P X ops dr Q r (i + 1) (BU.upd ⟨gs ++ ((x, .e (.one (.clo g))) :: FR xs ds0), [], some s, some (one r0), [], []⟩ st) ((i, ⟨gs ++ ((x, .e (.one (.clo g))) :: FR xs ds0), [], some s, some (one r0), [], []⟩) :: log)) : A1 P X ops dr Q (r + 1) i st log := by
 obtain ⟨o, ho, hop, hd, hn, hg, hgp⟩ := hat.out
 refine A1.step next ⟨Aj.2 ⟨hgp, hgx, hx⟩, trivial, trivial⟩ ?_
 intro st a w K Q' hs hpre hK
 obtain ⟨G, hs⟩ := hs
 obtain ⟨hgx, hx⟩ := (Aj.1 hpre.r).2
 have hw := hs.wanted hg (Aj.1 hpre.r).1
 unfold wpOp
 rw [ho]
 simp only [hw, if_true]
 refine .inl ?_
 unfold Oper.wp
 obtain ⟨f, caps, hv, ⟨fn, hf1, hf2, hf3⟩, hcall⟩ : LH P w G.S (a.eval x) g := hs.opd hgx
 have hgood : Az P f = true := by unfold Az; rw [hf1]; simp [hf2]; simpa using hf3
 have hrun : (execOp a.eval o).run P w = .ok (.enter f (xs.toArray.map a.eval ++ caps)) w := by
  simp only [execOp, hop]
  simp only [resolve, hv, Deferred.ofValue]
  refine Ag (a := { target := .fn (.func f) caps, args := #[] ++ xs.toArray.map a.eval }) (w1 := w) rfl ?_
  simp only [invoke]
  rw [HG hgood]; simp
 rw [hrun]
 show Calls P f (xs.toArray.map a.eval ++ caps) w _
 have hlen : xs.length = ar.length := by
  have := congrArg zC9 hds
  simp at this; omega
 refine (hcall w G.S (fun _ h => h) (fun _ _ => rfl) hs.S_lt hs.gok (xs.toArray.map a.eval) ar r0 (by simp [hlen]) ?_ hr).mono ?_
 ·intro j y hj
  have hlt := AA hj
  have hd0 : ds0[j]? = some (ds0[j]'(by omega)) := by simp [show j < ds0.length from by omega]
  have hnrm : (ds0[j]'(by omega)).nrm = Oz y := by
   have h1 : (ds0.map D.nrm)[j]? = (ar.map Oz)[j]? := by rw [hds]
   rw [uY, uY, hd0, hj] at h1
   simpa using h1
  have hxj : xs[j]? = some (xs[j]'(by omega)) := by simp [show j < xs.length from by omega]
  have hop' := Hq hl hx j _ _ hxj hd0
  have hcell : Au (xs.toArray.map a.eval) j = a.eval (xs[j]'(by omega)) := by simp [Au, show j < xs.length from by omega]
  rw [hcell]
  have hrd := (hs.opd hop').nrm
  rw [hnrm] at hrd
  exact UD hrd (fun _ h => h) (uU.1 hok y (lM hj))
 ·rintro e w' ⟨v, S'', rfl, hbel, hS1, hS2, hres⟩
  show K (a.put o.dst v) w'
  rw [hd]
  let G2 : Gh := { G with S := S'' }
  have hsz := hbel.size
  have hle := hs.below.size
  have key : Cp P X G2 ⟨st.env, By st.bx []⟩ a w' := by
   refine hs.frame (fun c hc => hc) ⟨hS1, fun _ _ => rfl, fun _ _ => rfl, fun _ _ => rfl⟩ (fun β hβ => hbel.block β (hs.S_lt β hβ)) ?_ ?_ ?_ ?_ ?_ (hs.below.trans (.of (hbel.mono hle))) (fun _ _ => ⟨rfl, rfl, rfl⟩)
   ·intro c k hc
    exact .inl ⟨hc, fun β hr hβ => hbel.block β (hs.at_ok c k β hc hr hβ).2.1⟩
   ·intro c k β hc hr hβ
    have := hs.at_ok c k β hc hr hβ
    refine ⟨this.1, by omega, fun h => ?_⟩
    rcases hS2 β h with h | h
    ·exact this.2.2 h
    ·omega
   ·intro c c' k k' β hc hc' hr hr' hβ hβ'
    exact hs.at_inj c c' k k' β hc hc' hr hr' hβ hβ'
   ·intro β h
    rcases hS2 β h with h | h
    ·have := hs.S_lt β h; omega
    ·exact h.2
   ·intro β h
    rcases hS2 β h with h | h
    ·exact hs.S_src β h
    ·exact .inr (by omega)
  refine hK _ _ ⟨G2, key.put (some s) (some (one r0)) v (by intro t e; cases e; exact hn) ?_⟩
  rintro d ⟨⟩
  exact ⟨hres, fun b hb => by cases hb⟩
end run
end Go.Lift
namespace Go.Lift
open Go.RowKit Go.ChangeShapes Go.WideShapes
section
variable {P : Program}
def JR (P : Program) : Nat → List Field → Nat → Bool
 | o, [], n => o == n
 | o, f :: fs, n => f.offset == o && JR P (o + P.cellsOf f.type) fs n
def Hl (P : Program) : Nat → TypeId → Bool
 | 0, _ => false
 | d + 1, t => match P.underlying t with
  | some (.int _) => true
  | some .bool => true
  | some .string => true
  | some (.slice e) => decide (0 < P.cellsOf e) && Hl P d e
  | some (.struct fs) => JR P 0 fs.toList (P.cellsOf t) && fs.toList.all fun f => Hl P d f.type
  | _ => false
def Tl (F : TypeId → List T → Prop) : List TypeId → List T → Prop
 | [], ts => ts = []
 | t :: tys, ts => ∃ a b, ts = a ++ b ∧ F t a ∧ Tl F tys b
def IA (P : Program) : Nat → TypeId → List T → Prop
 | 0, _, _ => False
 | d + 1, t, ts => match P.underlying t with
  | some (.int k) => ∃ n, ts = [.val (.int k n)] ∧ (Lit.int k n).wf = true
  | some .bool => ∃ b, ts = [.val (.bool b)]
  | some .string => ∃ s, ts = [.val (.string s)]
  | some (.slice e) => ∃ rows, ts = [.sl rows] ∧ ∀ row, row ∈ rows → IA P d e row
  | some (.struct fs) => Tl (IA P d) (fs.toList.map (·.type)) ts
  | _ => False
def Gn (w : World) (S : Nat → Prop) : List Value → List T → Prop
 | [], [] => True
 | v :: vs, t :: ts => Ci w S v t ∧ Gn w S vs ts
 | _, _ => False
theorem Gn.append {w : World} {S : Nat → Prop} : ∀ {a b : List Value} {x y : List T}, Gn w S a x → Gn w S b y → Gn w S (a ++ b) (x ++ y)
 | [], _, [], _, _, h => h
 | _ :: _, _, _ :: _, _, h1, h2 => ⟨h1.1, Gn.append h1.2 h2⟩
theorem Gn.len {w : World} {S : Nat → Prop} : ∀ {a : List Value} {x : List T}, Gn w S a x → a.length = x.length
 | [], [], _ => rfl
 | _ :: _, _ :: _, h => by simp [h.2.len]
theorem Gn.get {w : World} {S : Nat → Prop} : ∀ {a : List Value} {x : List T}, Gn w S a x → ∀ (j : Nat) (t : T), x[j]? = some t → ∃ v, a[j]? = some v ∧ Ci w S v t
 | [], [], _, j, t, hj => by simp at hj
 | v :: _, _ :: _, h, 0, t, hj => by simp at hj; subst hj; exact ⟨v, rfl, h.1⟩
 | _ :: _, _ :: _, h, j + 1, t, hj => by
  obtain ⟨v, h1, h2⟩ := h.2.get j t (by simpa using hj)
  exact ⟨v, by simpa using h1, h2⟩
theorem Ku {α : Type} {p : Nat → α → Prop} : ∀ (n : Nat), (∀ i, i < n → ∃ x, p i x) → ∃ l : List α, l.length = n ∧ ∀ i x, l[i]? = some x → p i x
 | 0, _ => ⟨[], rfl, fun i x h => by simp at h⟩
 | n + 1, h => by
  obtain ⟨l, h1, h2⟩ := Ku n (fun i hi => h i (by omega))
  obtain ⟨x, hx⟩ := h n (by omega)
  refine ⟨l ++ [x], by simp [h1], fun i y hi => ?_⟩
  by_cases hlt : i < l.length
  ·rw [zA1 hlt] at hi; exact h2 i y hi
  ·rw [vY (by omega)] at hi
   have : i - l.length = 0 := by
    have := AA hi
    simp at this; omega
   rw [this] at hi
   simp at hi; subst hi
   have : i = n := by omega
   subst this; exact hx
theorem IB {α : Type} {f : Nat → Option α} : ∀ {n : Nat} {l : List α}, (vX n).mapM f = some l → l.length = n ∧ ∀ i, i < n → f i = l[i]? := by
 intro n l h
 have h1 := mapM_some_length h
 refine ⟨by simpa using h1, fun i hi => ?_⟩
 exact mapM_some_get h i i (by simp [hi])
theorem N8 {w : World} {b o : Nat} {v : Value} (h : w.cell? ⟨b, o, none⟩ = some v) : ∃ arr el fz, w.heap[b]? = some (.cells arr el fz) ∧ arr[o]? = some v := by
 unfold World.cell? at h
 split at h
 ·rename_i c el fz hc
  exact ⟨c, el, fz, hc, by simpa using h⟩
 ·cases h
theorem SU {w : World} {b : Nat} {o : Obj} (h : w.heap[b]? = some o) : b < w.heap.size := by
 rcases vW b w.heap.size with h1 | h1
 ·exact h1
 ·rw [vZ h1] at h; cases h
abbrev Pk (w : World) : Nat → Prop := fun β => β < w.heap.size
theorem MA {H : Type} {enc : TypeId × Value → H} {w : World} {sp : Nat → Bool} {held : Bool} {n d : Nat} {cs : List Value}
  (ih : ∀ (t : TypeId) (cs : List Value) (x : DataW H × List MemPlace), Hl P d t = true → DataW.trod enc P w 0 sp held n t cs = some x → ∃ ts, Gn w (Pk w) cs ts ∧ IA P d t ts) :
  ∀ (fs : List Field) (o : Nat), JR P o fs cs.length = true → (fs.all fun f => Hl P d f.type) = true →
   (∀ f, f ∈ fs → ∃ x, DataW.trod enc P w 0 sp held n f.type ((cs.drop f.offset).take (P.cellsOf f.type)) = some x) →
   ∃ ts, Gn w (Pk w) (cs.drop o) ts ∧ Tl (IA P d) (fs.map (·.type)) ts
 | [], o, hc, _, _ => by
  simp only [JR, beq_iff_eq] at hc
  refine ⟨[], ?_, rfl⟩
  rw [vJ (by omega)]; trivial
 | f :: fs, o, hc, hp, hx => by
  simp only [JR, uT, beq_iff_eq] at hc
  simp only [zA7, uT] at hp
  obtain ⟨x, hx0⟩ := hx f (by simp)
  rw [hc.1] at hx0
  obtain ⟨ts, h1, h2⟩ := ih _ _ _ hp.1 hx0
  obtain ⟨us, h3, h4⟩ := MA ih fs _ hc.2 hp.2 (fun g hg => hx g (by simp [hg]))
  refine ⟨ts ++ us, ?_, ⟨ts, us, rfl, h2, h4⟩⟩
  have : cs.drop o = (cs.drop o).take (P.cellsOf f.type) ++ cs.drop (o + P.cellsOf f.type) := by
   rw [← List.drop_drop, List.take_append_drop]
  rw [this]
  exact h1.append h3
theorem NN {H : Type} {enc : TypeId × Value → H} {w : World} {sp : Nat → Bool} {held : Bool} : ∀ (d fuel : Nat) (t : TypeId) (cs : List Value) (x : DataW H × List MemPlace), Hl P d t = true → DataW.trod enc P w 0 sp held fuel t cs = some x → ∃ ts, Gn w (Pk w) cs ts ∧ IA P d t ts
 | 0, _, _, _, _, hp, _ => by cases hp
 | d + 1, fuel, t, cs, x, hp, hx => by
  unfold Hl at hp
  unfold IA
  split at hp
  ·rename_i k hu
   obtain ⟨n, rfl, _, hw⟩ := DataW.trod_int hu hx
   exact ⟨[.val (.int k n)], ⟨.val _ rfl, trivial⟩, n, rfl, hw⟩
  ·rename_i hu
   obtain ⟨b, rfl, _⟩ := DataW.trod_bool hu hx
   exact ⟨[.val (.bool b)], ⟨.val _ rfl, trivial⟩, b, rfl⟩
  ·rename_i hu
   obtain ⟨b, rfl, _⟩ := DataW.trod_string hu hx
   exact ⟨[.val (.string b)], ⟨.val _ rfl, trivial⟩, b, rfl⟩
  ·rename_i e hu
   simp only [uT, decide_eq_true_eq] at hp
   rcases DataW.trod_slice hu hx with ⟨rfl, _⟩ | ⟨a, len, cap, elems, rest, n, rfl, rfl, _, _, hl, _, hlen, hel, _, _⟩
   ·exact ⟨[.sl []], ⟨.nil none 0, trivial⟩, [], rfl, fun row h => by cases h⟩
   ·have hrow : ∀ i, i < len → ∃ row, ∃ csi, w.cells? 0 (a.add (i * P.cellsOf e)) (P.cellsOf e) = some csi ∧ Gn w (Pk w) csi row ∧ IA P d e row := by
     intro i hi
     have h1 := hel i hi
     have h2 : elems[i]? = some (elems[i]'(by omega)) := by simp [show i < elems.length from by omega]
     rw [h2] at h1
     obtain ⟨csi, h3, h4⟩ := Option.bind_eq_some_iff.1 h1
     obtain ⟨row, h5, h6⟩ := NN d n e csi _ hp.2 h4
     exact ⟨row, csi, h3, h5, h6⟩
    obtain ⟨rows, hrl, hrows⟩ := Ku len hrow
    subst hrl
    refine ⟨[.sl rows], ⟨?_, trivial⟩, rows, rfl, fun row hm => ?_⟩
    ·cases hr0 : rows with
     | nil => exact .nil _ _
     | cons r0 rs0 =>
      rw [← hr0]
      have hpos : 0 < rows.length := by rw [hr0]; simp
      -- each cell
      have hcell : ∀ (i : Nat) (row : List T) (j : Nat) (u : T), rows[i]? = some row → row[j]? = some u → j < P.cellsOf e ∧ ∃ v, w.cell? ((a.add (i * P.cellsOf e)).add j) = some v ∧ Ci w (Pk w) v u := by
       intro i row j u hi hj
       obtain ⟨csi, h1, h2, _⟩ := hrows i row hi
       obtain ⟨v, h3, h4⟩ := h2.get j u hj
       unfold World.cells? at h1
       rw [if_pos (vN _)] at h1
       obtain ⟨h5, h6⟩ := IB h1
       have hjl : j < P.cellsOf e := by have := AA h3; omega
       exact ⟨hjl, v, by rw [h6 j hjl, h3], h4⟩
      have hrlen : ∀ (i : Nat) (row : List T), rows[i]? = some row → row.length = P.cellsOf e := by
       intro i row hi
       obtain ⟨csi, h1, h2, _⟩ := hrows i row hi
       unfold World.cells? at h1
       rw [if_pos (vN _)] at h1
       obtain ⟨h5, _⟩ := IB h1
       rw [← h2.len, h5]
      have hget : ∀ i (hi : i < rows.length), rows[i]? = some (rows[i]'hi) := fun i hi => by simp [hi]
      have hr00 := hget 0 hpos
      have hl0 := hrlen 0 _ hr00
      obtain ⟨_, v0, hv0, _⟩ := hcell 0 _ 0 ((rows[0]'hpos)[0]'(by omega)) hr00 (by simp)
      have hadd0 : (a.add (0 * P.cellsOf e)).add 0 = a := by simp [Addr.add]
      rw [hadd0] at hv0
      have hspot := World.cell?_spot hv0
      obtain ⟨β, off, spot⟩ := a
      simp only at hspot
      subst hspot
      obtain ⟨arr, el, fz, hb, _⟩ := N8 hv0
      have hadd : ∀ i j : Nat, ((⟨β, off, none⟩ : Addr).add (i * P.cellsOf e)).add j = ⟨β, off + i * P.cellsOf e + j, none⟩ := by
       intro i j
       unfold Addr.add
       split
       ·rename_i h1
        split
        ·rename_i h2; rw [h2]; simp
        ·rename_i h2; simp only [Addr.mk.injEq, true_and, and_true]; omega
       ·split <;> simp_all <;> omega
      have hat : ∀ (i : Nat) (row : List T) (j : Nat) (u : T), rows[i]? = some row → row[j]? = some u → off + i * P.cellsOf e + j < arr.size ∧ Ci w (Pk w) (Au arr (off + i * P.cellsOf e + j)) u := by
       intro i row j u hi hj
       obtain ⟨_, v, h1, h2⟩ := hcell i row j u hi hj
       rw [hadd] at h1
       obtain ⟨arr', el', fz', h3, h4⟩ := N8 h1
       rw [hb] at h3; cases h3
       have hlt : off + i * P.cellsOf e + j < arr.size := by
        rcases vW (off + i * P.cellsOf e + j) arr.size with h | h
        ·exact h
        ·rw [vZ h] at h4; cases h4
       refine ⟨hlt, ?_⟩
       have : Au arr (off + i * P.cellsOf e + j) = v := by unfold Au; rw [h4]; rfl
       rw [this]; exact h2
      refine .sl β off cap (P.cellsOf e) arr el fz rows (SU hb) hb hl ?_ hrlen (fun i row j u hi hj => (hat i row j u hi hj).2)
      have hil := hget (rows.length - 1) (by omega)
      have hll := hrlen _ _ hil
      have h7 := (hat (rows.length - 1) _ (P.cellsOf e - 1) ((rows[rows.length - 1]'(by omega))[P.cellsOf e - 1]'(by omega)) hil (by simp)).1
      have h8 : rows.length * P.cellsOf e = (rows.length - 1) * P.cellsOf e + P.cellsOf e := by
       rw [← zA2]; congr 1; omega
      omega
    ·obtain ⟨i, hi⟩ := vI.1 hm
     obtain ⟨_, _, _, h⟩ := hrows i row hi
     exact h
  ·rename_i fs hu
   simp only [uT] at hp
   obtain ⟨xs, n, rfl, _, hcl, hxl, hf⟩ := DataW.trod_struct hu hx
   have := MA (enc := enc) (sp := sp) (held := held) (cs := cs) (fun t cs x h1 h2 => NN d n t cs x h1 h2) fs.toList 0 (by rw [hcl]; exact hp.1) hp.2 (fun f hm => by
    obtain ⟨i, hi⟩ := vI.1 hm
    have hi' : fs[i]? = some f := by simpa using hi
    have h1 := hf i f hi'
    have hlt : i < fs.size := by
     have := AA hi
     simpa using this
    exact ⟨xs[i]'(by omega), by rw [h1]; simp [show i < xs.length from by omega]⟩)
   simpa using this
  ·cases hp
end
end Go.Lift
namespace Go.Lift
open Go.RowKit Go.ChangeShapes Go.WideShapes
section
variable {P : Program}
def SF (P : Program) (t : TypeId) (us : List T) : D := match P.underlying t with
 | some (.struct _) => .e (.agg (us.map .pure))
 | _ => .e (.one (.pure (us.headD .nil0)))
def HP (P : Program) (d : Nat) : List TypeId → List D → Prop
 | [], [] => True
 | t :: ts, x :: xs => (∃ us, IA P d t us ∧ x = SF P t us) ∧ HP P d ts xs
 | _, _ => False
theorem Ui {H : Type} {enc : TypeId × Value → H} {w : World} {d base : Nat} {t : TypeId} {v : Value} {x : DataW H} {ps : List MemPlace} (hp : Hl P d t = true) (hval : Value.okWide P w .any base t v) (h : DataW.Trod enc P w 0 (fun _ => true) true t v x ps) :
  ∃ us, IA P d t us ∧ FK P w (G0 (Pk w)) v (SF P t us) := by
 obtain ⟨fuel, hf⟩ := h
 obtain ⟨us, h1, h2⟩ := NN d fuel t _ _ hp hf
 refine ⟨us, h2, ?_⟩
 have single : ∀ (v : Value), v.cells.toList = [v] → Gn w (Pk w) v.cells.toList us → FK P w (G0 (Pk w)) v (.e (.one (.pure (us.headD .nil0)))) := by
  intro v hv hr
  rw [hv] at hr
  match us, hr with
  | [u], hr => exact hr.1
 unfold SF
 cases d with
 | zero => cases hp
 | succ d =>
  unfold Hl at hp
  split at hp
  ·rename_i k hu
   rw [hu]
   obtain ⟨n, rfl⟩ := okWide_int hu hval
   exact single _ rfl h1
  ·rename_i hu
   rw [hu]
   obtain ⟨n, rfl⟩ := okWide_bool hu hval
   exact single _ rfl h1
  ·rename_i hu
   rw [hu]
   obtain ⟨n, rfl⟩ := okWide_string hu hval
   exact single _ rfl h1
  ·rename_i e hu
   rw [hu]
   obtain ⟨a, len, cap, rfl⟩ := okWide_slice hu hval
   exact single _ rfl h1
  ·rename_i fs hu
   rw [hu]
   simp only [Value.okWide, hu] at hval
   obtain ⟨cs, rfl, _, _⟩ := hval
   have h1 : Gn w (Pk w) cs.toList us := h1
   refine ⟨cs, rfl, by simpa using h1.len, fun j c hj => ?_⟩
   rw [uY] at hj
   cases hx : us[j]? with
   | none => rw [hx] at hj; cases hj
   | some u =>
    rw [hx] at hj; cases hj
    obtain ⟨v, h3, h4⟩ := h1.get j u hx
    have : Au cs j = v := by unfold Au; rw [show cs[j]? = some v from by simpa using h3]; rfl
    rw [this]; exact h4
  ·cases hp
theorem PX {H : Type} {enc : TypeId × Value → H} {w : World} {d base : Nat} : ∀ {ts : List TypeId} {vs : List Value} {ds : List (DataW H)} {ps : List MemPlace}, (ts.all (Hl P d)) = true → (∀ (j : Nat) t v, ts[j]? = some t → vs[j]? = some v → Value.okWide P w .any base t v) →
  DataW.TrodAll enc P w 0 (fun _ => true) true ts vs ds ps → ∃ Ds, HP P d ts Ds ∧ vs.length = Ds.length ∧ ds.length = ts.length ∧ ∀ (j : Nat) (x : D), Ds[j]? = some x → ∃ v, vs[j]? = some v ∧ FK P w (G0 (Pk w)) v x
 | [], [], [], _, _, _, _ => ⟨[], trivial, rfl, rfl, fun j x h => by simp at h⟩
 | t :: ts, v :: vs, x :: xs, _, hp, hval, h => by
  obtain ⟨p, q, h1, h2, _⟩ := h
  simp only [zA7, uT] at hp
  obtain ⟨us, h3, h4⟩ := Ui hp.1 (hval 0 t v rfl rfl) h1
  obtain ⟨Ds, h5, h6, h7, h8⟩ := PX hp.2 (fun j t v hj hv => hval (j + 1) t v (by simpa using hj) (by simpa using hv)) h2
  refine ⟨SF P t us :: Ds, ⟨⟨us, h3, rfl⟩, h5⟩, by simp [h6], by simp [h7], fun j y hj => ?_⟩
  cases j with
  | zero => simp at hj; subst hj; exact ⟨v, rfl, h4⟩
  | succ j =>
   obtain ⟨v', g1, g2⟩ := h8 j y (by simpa using hj)
   exact ⟨v', by simpa using g1, g2⟩
 | [], [], _ :: _, _, _, _, h => h.elim
 | [], _ :: _, _, _, _, _, h => by cases ‹List (DataW H)› <;> exact h.elim
 | _ :: _, [], _, _, _, _, h => by cases ‹List (DataW H)› <;> exact h.elim
 | _ :: _, _ :: _, [], _, _, _, h => h.elim
theorem I7 {H : Type} {enc : TypeId × Value → H} (hl : laidOutB P = true) {W W' : World} (hb : Below W.heap.size W W') : ∀ {ts : List TypeId} {vs : List Value} {ds : List (DataW H)} {ps : List MemPlace}, (ts.all fun t => P.readableRec t && decide (t < P.types.size)) = true →
  DataW.TrodAll enc P W 0 (fun _ => true) true ts vs ds ps → (∀ x ∈ ps, x.block < W.heap.size) → DataW.TrodAll enc P W' 0 (fun b => decide (b < W.heap.size)) true ts vs ds ps
 | [], [], [], _, _, h, _ => h
 | t :: ts, v :: vs, x :: xs, _, hr, h, hlt => by
  obtain ⟨p, q, h1, h2, rfl⟩ := h
  simp only [zA7, uT, decide_eq_true_eq] at hr
  refine ⟨p, q, Below.trod hl hr.1.1 hr.1.2 h1 hb (fun y hy => hlt y (by simp [hy])), I7 hl hb (by simpa using hr.2) h2 (fun y hy => hlt y (by simp [hy])), rfl⟩
 | [], [], _ :: _, _, _, h, _ => h.elim
 | [], _ :: _, _, _, _, h, _ => by cases ‹List (DataW H)› <;> exact h.elim
 | _ :: _, [], _, _, _, h, _ => by cases ‹List (DataW H)› <;> exact h.elim
 | _ :: _, _ :: _, [], _, _, h, _ => h.elim
end
end Go.Lift
namespace Go.Lift
open Go.RowKit
section
variable {P : Program}
def Mx {α : Type} (P : Program) (t : TypeId) (e : α → List T) (W : α → Prop) : Prop := ∀ (d : Nat) (ts : List T), IA P d t ts → ∃ x, ts = e x ∧ W x
theorem NH {t : TypeId} {k : IntKind} {e : Int → List T} (h : NM P t k = true) (he : ∀ n, e n = [.val (.int k n)]) : Mx P t e (fun n => (Lit.int k n).wf = true) := by
 intro d ts hf
 cases d with
 | zero => exact hf.elim
 | succ d =>
  unfold NM at h
  unfold IA at hf
  split at h
  ·rename_i k' hu
   rw [hu] at hf
   obtain ⟨n, rfl, hw⟩ := hf
   have : k' = k := by simpa using h
   subst this
   exact ⟨n, (he n).symm, hw⟩
  ·cases h
theorem RA {t : TypeId} {e : Bool → List T} (h : T0 P t = true) (he : ∀ n, e n = [.val (.bool n)]) : Mx P t e (fun _ => True) := by
 intro d ts hf
 cases d with
 | zero => exact hf.elim
 | succ d =>
  unfold T0 at h
  unfold IA at hf
  split at h
  ·rename_i hu
   rw [hu] at hf
   obtain ⟨n, rfl⟩ := hf
   exact ⟨n, (he n).symm, trivial⟩
  ·cases h
theorem Lj {α : Type} {e : α → List T} {W : α → Prop} : ∀ (rows : List (List T)), (∀ row, row ∈ rows → ∃ x, row = e x ∧ W x) → ∃ xs : List α, rows = xs.map e ∧ ∀ x, x ∈ xs → W x
 | [], _ => ⟨[], rfl, fun x h => by cases h⟩
 | r :: rows, h => by
  obtain ⟨x, rfl, hx⟩ := h r (by simp)
  obtain ⟨xs, rfl, hxs⟩ := Lj rows (fun row hr => h row (by simp [hr]))
  exact ⟨x :: xs, rfl, fun y hy => by
   rcases vT.1 hy with e | e
   ·subst e; exact hx
   ·exact hxs y e⟩
theorem GD {α : Type} {t el : TypeId} {e : α → List T} {W : α → Prop} {e2 : List α → List T} (h : sliceB P t el = true) (he : Mx P el e W) (h2 : ∀ xs, e2 xs = [.sl (xs.map e)]) : Mx P t e2 (fun xs => ∀ x, x ∈ xs → W x) := by
 intro d ts hf
 cases d with
 | zero => exact hf.elim
 | succ d =>
  unfold sliceB at h
  unfold IA at hf
  split at h
  ·rename_i e' hu
   rw [hu] at hf
   obtain ⟨rows, rfl, hr⟩ := hf
   have : e' = el := by simpa using h
   subst this
   obtain ⟨xs, rfl, hxs⟩ := Lj rows (fun row hm => he d row (hr row hm))
   exact ⟨xs, (h2 xs).symm, hxs⟩
  ·cases h
def EM (P : Program) (t : TypeId) : Option (List TypeId) := match P.underlying t with | some (.struct fs) => some (fs.toList.map (·.type)) | _ => none
theorem GG {t : TypeId} {tys : List TypeId} (h : EM P t = some tys) {d : Nat} {ts : List T} (hf : IA P d t ts) : ∃ d', Tl (IA P d') tys ts := by
 cases d with
 | zero => exact hf.elim
 | succ d =>
  unfold EM at h
  unfold IA at hf
  split at h
  ·rename_i fs hu
   cases h
   rw [hu] at hf
   exact ⟨d, hf⟩
  ·cases h
theorem Pn {t : TypeId} {tys : List TypeId} (h : EM P t = some tys) (us : List T) : SF P t us = .e (.agg (us.map .pure)) := by
 unfold EM at h
 unfold SF
 revert h
 cases P.underlying t with
 | none => intro h; cases h
 | some k => cases k <;> intro h <;> first | rfl | cases h
theorem Sp {t : TypeId} (h : EM P t = none) (us : List T) : SF P t us = .e (.one (.pure (us.headD .nil0))) := by
 unfold EM at h
 unfold SF
 revert h
 cases P.underlying t with
 | none => intro _; rfl
 | some k => cases k <;> intro h <;> first | rfl | cases h
theorem Jr {d : Nat} {t : TypeId} {ts : List TypeId} {Ds : List D} (h : HP P d (t :: ts) Ds) : ∃ us xs, Ds = SF P t us :: xs ∧ IA P d t us ∧ HP P d ts xs := by
 cases Ds with
 | nil => exact h.elim
 | cons x xs => obtain ⟨⟨us, h1, rfl⟩, h2⟩ := h; exact ⟨us, xs, rfl, h1, h2⟩
theorem OU {d : Nat} {Ds : List D} (h : HP P d [] Ds) : Ds = [] := by
 cases Ds with
 | nil => rfl
 | cons x xs => exact h.elim
end
end Go.Lift
namespace Go.Lift
open List renaming mem_of_getElem? → lM
open List renaming getD_eq_getElem?_getD → lD
open Go.RowKit
variable {P : Program} {X : F6} {ops : Array Oper}
instance : Inhabited Bi := ⟨.gone⟩
def GP (n m b : Nat) : Bool := if Bz b then Nat.blt (b - 90000) n else Nat.blt b m
def PS (G : Gh) (n : Nat) (β : Nat) : Prop := ∃ k, k < n ∧ G.has (90000 + k) β
theorem GN {k : Nat} (h : k < 1000) : Bz (90000 + k) = true := by
 unfold Bz
 rw [zC7 (by omega), zC7 (by omega)]; rfl
theorem QI {k : Nat} (h : k < 900) : Mt (90000 + k) = true := by
 unfold Mt
 rw [uT]
 exact ⟨zC7 (by omega), zC7 (by omega)⟩
theorem HV {b : Nat} (h : Bz b = true) : ∃ k, k < 1000 ∧ b = 90000 + k := by
 unfold Bz at h
 rw [uT] at h
 have h1 := vP h.1
 have h2 := vP h.2
 exact ⟨b - 90000, by omega, by omega⟩
def Do (P : Program) (f : FuncId) (args : List D) (lent : List (Bi × Bi)) (rv : List Bi) (res : D) : Prop :=
 ∀ (w : World) (G : Gh) (vs : Array Value), (∀ β, G.S β → β < w.heap.size) → Se P w G.S →
  (∀ (k : Nat) (x : Bi × Bi), lent[k]? = some x → DY P w G (90000 + k) x.1) →
  (∀ k β, k < lent.length → G.has (90000 + k) β → β < w.heap.size ∧ ¬ G.S β) →
  (∀ k l β, k < lent.length → l < lent.length → G.has (90000 + k) β → G.has (90000 + l) β → k = l) →
  vs.size = args.length → (∀ (j : Nat) (d : D), args[j]? = some d → FK P w G (Au vs j) d) →
  Calls P f vs w fun e w' => ∃ v G', e = .returned v ∧ Cv (PS G lent.length) w.heap.size w w' ∧ (∀ β, G.S β → G'.S β) ∧ (∀ β, G'.S β → G.S β ∨ (w.heap.size ≤ β ∧ β < w'.heap.size)) ∧ FK P w' G' v res ∧
   (∀ (k : Nat) (x : Bi × Bi), lent[k]? = some x → DY P w' G' (90000 + k) x.2) ∧
   (∀ (k : Nat) (x : Bi), rv[k]? = some x → DY P w' G' k x) ∧
   (∀ k, k < lent.length → G'.loc (90000 + k) = G.loc (90000 + k) ∧ G'.hd (90000 + k) = G.hd (90000 + k) ∧ G'.more (90000 + k) = G.more (90000 + k)) ∧
   (∀ k β, k < lent.length → G'.has (90000 + k) β → ¬ G'.S β) ∧
   (∀ k β, k < rv.length → G'.has k β → w.heap.size ≤ β ∧ β < w'.heap.size ∧ ¬ G'.S β) ∧
   (∀ k l β, k < rv.length → l < rv.length → G'.has k β → G'.has l β → k = l)
def Mz (args : List D) (lent : List (Bi × Bi)) : St := ⟨fun s => args[s]?, fun b => if Bz b then (lent[b - 90000]?).map (·.1) else none⟩
def MZ (bx : Nat → Option Bi) (f : Nat → Nat) : Nat → List (Bi × Bi) → Prop
 | _, [] => True
 | k, x :: xs => bx (90000 + k) = some (x.2.ren f) ∧ MZ bx f (k + 1) xs
def O4 (bx : Nat → Option Bi) (f : Nat → Nat) : Nat → List Bi → Prop
 | _, [] => True
 | k, x :: xs => bx (1000 + k) = some (x.ren f) ∧ O4 bx f (k + 1) xs
theorem KC {bx : Nat → Option Bi} {f : Nat → Nat} : ∀ {l : List (Bi × Bi)} {m : Nat}, MZ bx f m l → ∀ (k : Nat) (x : Bi × Bi), l[k]? = some x → bx (90000 + (m + k)) = some (x.2.ren f)
 | y :: rv, m, h, 0, x, hk => by simp at hk; subst hk; exact h.1
 | y :: rv, m, h, k + 1, x, hk => by
  have := KC h.2 k x (by simpa using hk)
  rwa [show m + 1 + k = m + (k + 1) from by omega] at this
theorem LP {bx : Nat → Option Bi} {f : Nat → Nat} : ∀ {l : List Bi} {m : Nat}, O4 bx f m l → ∀ (k : Nat) (x : Bi), l[k]? = some x → bx (1000 + (m + k)) = some (x.ren f)
 | y :: rv, m, h, 0, x, hk => by simp at hk; subst hk; exact h.1
 | y :: rv, m, h, k + 1, x, hk => by
  have := LP h.2 k x (by simpa using hk)
  rwa [show m + 1 + k = m + (k + 1) from by omega] at this
def IZ (b : Nat) : Nat := if Bz b then b else 1000 + b
structure Rg (P : Program) (rs : List ResultVar) (st : St) (lent : List (Bi × Bi)) (rv : List Bi) (res : D) : Prop where
 r : ∃ xs, U2 P st rs xs ∧ VB xs = res.ren IZ
 l : MZ st.bx IZ 0 lent
 v : O4 st.bx IZ 0 rv
def F2 (n m : Nat) (l : List Nat) : Bool := l.all (GP n m)
theorem Db {f n : Nat} {fn : Func} {c : Code} {args : List D} {lent : List (Bi × Bi)} {rv : List Bi} {res : D} {rs : List ResultVar} (hf : P.funcs[f]? = some fn) (hb : fn.body = some c) (hn : fn.ntmps = n) (hrs : fn.results.toList = rs) (hl : args.length ≤ n) (hn9 : n ≤ 90000)
  (hargs : (args.all fun d => F2 lent.length 0 d.names) = true) (hpre : (lent.all fun x => F2 lent.length 0 x.1.names && x.1.real && x.2.real) = true) (hll : lent.length ≤ 900) (hrl : (rv.all fun x => x.real) = true) (hrn : rv.length ≤ 1000)
  (h : ∀ (w0 : World) (S0 : Nat → Prop) (GL : Gh), W P ⟨w0, S0, n, GL⟩ c (fun e st => match e with | .normal | .ret => Rg P rs st lent rv res | _ => False) (Mz args lent)) : Do P f args lent rv res := by
 subst hn; subst hrs
 intro w G vs hS hgk hlb hla hli hlen hrd
 refine calls_of_wp hf hb ?_
 have hcell : ∀ j, j < args.length → Au (vs ++ zD9 (fn.ntmps - vs.size) undef) j = Au vs j := fun j hj => Ct (by omega)
 -- the ghost that knows of what is lent alone
 let dom : Nat → Prop := fun b => Bz b = true ∧ b - 90000 < lent.length
 have hdec : ∀ b, Decidable (dom b) := fun b => inferInstanceAs (Decidable (_ ∧ _))
 let GL : Gh := { S := G.S, loc := fun b => if dom b then G.loc b else none, hd := fun b => if dom b then G.hd b else undef, more := fun b => if dom b then G.more b else fun _ => False }
 have hext : G.ext GL dom := ⟨fun _ h => h, fun b hb => if_pos hb, fun b hb => if_pos hb, fun b hb => if_pos hb⟩
 have hdomk : ∀ k, k < lent.length → dom (90000 + k) := fun k hk => ⟨GN (by omega), by omega⟩
 have hin : ∀ b, GP lent.length 0 b = true → dom b := by
  intro b hb
  unfold GP at hb
  split at hb
  ·rename_i hl; exact ⟨hl, by rwa [zC3] at hb⟩
  ·simp [Nat.blt] at hb
 have hhas : ∀ b β, GL.has b β → dom b ∧ G.has b β := by
  intro b β hb
  by_cases hd : dom b
  ·exact ⟨hd, (hext.has hd).1 hb⟩
  ·exfalso
   unfold Gh.has at hb
   simp only [GL] at hb
   rw [if_neg hd, if_neg hd] at hb
   rcases hb with h | h
   ·cases h
   ·exact h
 have hlent : ∀ β, GL.lent β ↔ PS G lent.length β := by
  intro β
  constructor
  ·rintro ⟨b, hb, hb2⟩
   obtain ⟨hd, hg⟩ := hhas b β hb2
   obtain ⟨k, _, rfl⟩ := HV hb
   exact ⟨k, by have := hd.2; omega, hg⟩
  ·rintro ⟨k, hk, hg⟩
   exact ⟨90000 + k, GN (by omega), (hext.has (hdomk k hk)).2 hg⟩
 have hbx : ∀ b k, (Mz args lent).bx b = some k → dom b ∧ ∃ x, lent[b - 90000]? = some x ∧ x.1 = k := by
  intro b k hk
  simp only [Mz] at hk
  split at hk
  ·rename_i hb
   cases hx : lent[b - 90000]? with
   | none => rw [hx] at hk; cases hk
   | some x => rw [hx] at hk; cases hk; exact ⟨⟨hb, AA hx⟩, x, rfl, rfl⟩
  ·cases hk
 have hdn : ∀ b, dom b → ((Mz args lent).bx b).isSome = true := by
  intro b hb
  simp only [Mz]
  rw [if_pos hb.1]
  simp [hb.2]
 have hpre' : ∀ x, x ∈ lent → F2 lent.length 0 x.1.names = true ∧ x.1.real = true ∧ x.2.real = true := fun x hx => by
  have := uU.1 hpre x hx
  rw [uT, uT] at this
  exact ⟨this.1.1, this.1.2, this.2⟩
 have hbk : ∀ b, dom b → b = 90000 + (b - 90000) := fun b hb => by obtain ⟨k, _, e⟩ := HV hb.1; omega
 have hinit : Cp P ⟨w, G.S, fn.ntmps, GL⟩ GL (Mz args lent) { tmps := vs ++ zD9 (fn.ntmps - vs.size) undef, defers := [] } w := by
  refine { S_lt := hS, S_src := fun β h => .inl h, S_0 := fun β h => h, S0_lt := hS, tsz := by simp; omega, defers := rfl, below := Cv.refl _ _ _, gok := hgk, nlt := hn9, lent := fun _ _ => ⟨rfl, rfl, rfl⟩, blk := ?_, at_ok := ?_, at_inj := ?_, env := ?_, live := ?_, liveB := ?_ }
  ·intro b k hk
   obtain ⟨hd, x, hx, rfl⟩ := hbx b k hk
   have h1 := hlb _ x hx
   rw [← hbk b hd] at h1
   exact h1.mono hext hd (fun _ _ => rfl) (fun _ _ _ => rfl) fun c hc => hin c (uU.1 (hpre' x (lM hx)).1 c hc)
  ·intro b k β hk hr hβ
   obtain ⟨hd, hg⟩ := hhas b β hβ
   rw [hbk b hd] at hg
   have := hla _ β hd.2 hg
   exact ⟨⟨fun h3 => (by rw [hd.1] at h3; cases h3), .inr ⟨b, hd.1, hβ⟩⟩, this.1, this.2⟩
  ·intro b c k l β hk hl hr hr' hβ hβ'
   obtain ⟨hd, hg⟩ := hhas b β hβ
   obtain ⟨hd', hg'⟩ := hhas c β hβ'
   rw [hbk b hd] at hg
   rw [hbk c hd'] at hg'
   have := hli _ _ β hd.2 hd'.2 hg hg'
   rw [hbk b hd, hbk c hd', this]
  ·intro s d hs
   have hs' : args[s]? = some d := hs
   rw [hcell s (AA hs')]
   exact (hrd s d hs').mono hext (fun _ _ => rfl) fun b hb => hin b (uU.1 (uU.1 hargs d (lM hs')) b hb)
  ·intro s d hs b hb
   have hs' : args[s]? = some d := hs
   exact hdn b (hin b (uU.1 (uU.1 hargs d (lM hs')) b hb))
  ·intro b k hk c hc
   obtain ⟨hd, x, hx, rfl⟩ := hbx b k hk
   exact hdn c (hin c (uU.1 (hpre' x (lM hx)).1 c hc))
 refine wp_mono (h w G.S GL _ w ⟨_, hinit⟩) ?_
 rintro e a' w' ⟨st', hq, G2, hs⟩
 have key : Rg P fn.results.toList st' lent rv res → a'.defers = [] ∧ ∃ v, (results fn a'.tmps).run P w' = .ok v w' ∧ ∃ v' G', Ending.returned v = .returned v' ∧ Cv (PS G lent.length) w.heap.size w w' ∧ (∀ β, G.S β → G'.S β) ∧ (∀ β, G'.S β → G.S β ∨ (w.heap.size ≤ β ∧ β < w'.heap.size)) ∧ FK P w' G' v' res ∧
   (∀ (k : Nat) (x : Bi × Bi), lent[k]? = some x → DY P w' G' (90000 + k) x.2) ∧
   (∀ (k : Nat) (x : Bi), rv[k]? = some x → DY P w' G' k x) ∧
   (∀ k, k < lent.length → G'.loc (90000 + k) = G.loc (90000 + k) ∧ G'.hd (90000 + k) = G.hd (90000 + k) ∧ G'.more (90000 + k) = G.more (90000 + k)) ∧
   (∀ k β, k < lent.length → G'.has (90000 + k) β → ¬ G'.S β) ∧
   (∀ k β, k < rv.length → G'.has k β → w.heap.size ≤ β ∧ β < w'.heap.size ∧ ¬ G'.S β) ∧
   (∀ k l β, k < rv.length → l < rv.length → G'.has k β → G'.has l β → k = l) := by
  rintro ⟨⟨xs, hr1, hr2⟩, hlp, hv⟩
  obtain ⟨us, h1, h2, h3⟩ := hs.rrs hr1
  have hoL : ∀ k, k < lent.length → IZ (90000 + k) = 90000 + k := fun k hk => by unfold IZ; rw [GN (by omega)]; rfl
  have hoN : ∀ k, k < rv.length → IZ k = 1000 + k := fun k hk => by unfold IZ; rw [HD (show k < 1000 by omega) (by omega)]; rfl
  have hbl : ∀ (k : Nat) (x : Bi × Bi), lent[k]? = some x → st'.bx (90000 + k) = some (x.2.ren IZ) := fun k x hk => by
   have := KC hlp k x hk
   rwa [uZ] at this
  have hbv : ∀ (k : Nat) (x : Bi), rv[k]? = some x → st'.bx (1000 + k) = some (x.ren IZ) := fun k x hk => by
   have := LP hv k x hk
   rwa [uZ] at this
  have hreal : ∀ (k : Nat) (x : Bi), rv[k]? = some x → (x.ren IZ).real = true := fun k x hk => by
   rw [Ht]; exact uU.1 hrl x (lM hk)
  have hgl : ∀ k, k < lent.length → G2.loc (90000 + k) = G.loc (90000 + k) ∧ G2.hd (90000 + k) = G.hd (90000 + k) ∧ G2.more (90000 + k) = G.more (90000 + k) := fun k hk => by
   obtain ⟨e1, e2, e3⟩ := hs.lent (90000 + k) (QI (by omega))
   exact ⟨e1.trans (hext.loc _ (hdomk k hk)), e2.trans (hext.hd _ (hdomk k hk)), e3.trans (hext.more _ (hdomk k hk))⟩
  refine ⟨hs.defers, (if h : us.toArray.size = 1 then us.toArray[0] else .tuple us.toArray), ?_, _, { S := G2.S, loc := fun b => G2.loc (IZ b), hd := fun b => G2.hd (IZ b), more := fun b => G2.more (IZ b) }, rfl, ?_, hs.S_0, ?_, ?_, ?_, ?_, ?_, ?_, ?_, ?_⟩
  ·unfold results
   refine Ag (a := us.toArray) (w1 := w') ?_ rfl
   rw [Array.mapM_eq_mapM_toList]
   simp only [Sem.run_map]
   exact congrArg (fun r => Result.andThen r fun a w' => Result.ok a.toArray w') h1
  ·have hb := hs.below
   exact ⟨hb.os, hb.tape, hb.output, hb.size, hb.drawn, fun k hk hl => hb.block k hk fun h => hl ((hlent k).1 h)⟩
  ·intro β hβ
   rcases hs.S_src β hβ with h | h
   ·exact .inl h
   ·exact .inr ⟨h, hs.S_lt β hβ⟩
  ·refine HN (f := IZ) ?_
   rw [← hr2]
   match xs, us, h2 with
   | [], [], _ => exact ⟨#[], rfl, rfl, fun j x h => by simp at h⟩
   | [x], [u], _ => exact h3 0 u x rfl rfl
   | x :: y :: xs, u :: u' :: us, hl2 =>
    refine ⟨(u :: u' :: us).toArray, by simp, by simpa using hl2, fun j z hj => ?_⟩
    have hlt := AA hj
    have hu : (u :: u' :: us)[j]? = some ((u :: u' :: us)[j]'(by rw [hl2]; exact hlt)) := by rw [vK]
    have := h3 j _ z hu hj
    have hc : Au (u :: u' :: us).toArray j = (u :: u' :: us)[j]'(by rw [hl2]; exact hlt) := by
     unfold Au
     rw [List.getElem?_toArray, hu]; rfl
    rw [hc]; exact this
  ·intro k x hk
   refine HX (f := IZ) ?_
   rw [hoL k (AA hk)]
   exact hs.blk _ _ (hbl k x hk)
  ·intro k x hk
   refine HX (f := IZ) ?_
   rw [hoN k (AA hk)]
   exact hs.blk _ _ (hbv k x hk)
  ·intro k hk
   simp only [hoL k hk]
   exact hgl k hk
  ·intro k β hk hβ
   have hx : lent[k]? = some lent[k] := by simp [hk]
   have hβ : G2.has (90000 + k) β := by
    unfold Gh.has at hβ ⊢
    simp only [hoL k hk] at hβ
    exact hβ
   exact (hs.at_ok _ _ β (hbl k _ hx) (by rw [Ht]; exact (hpre' _ (lM hx)).2.2) hβ).2.2
  ·intro k β hk hβ
   have hx : rv[k]? = some rv[k] := by simp [hk]
   have hβ : G2.has (1000 + k) β := by
    unfold Gh.has at hβ ⊢
    simp only [hoN k hk] at hβ
    exact hβ
   have := hs.at_ok _ _ β (hbv k _ hx) (hreal k _ hx) hβ
   exact ⟨this.1.1 (HD (show 1000 + k < 3000 by omega) (by omega)), this.2⟩
  ·intro k l β hk hl hβ hβ'
   have hx : rv[k]? = some rv[k] := by simp [hk]
   have hx' : rv[l]? = some rv[l] := by simp [hl]
   have hβ : G2.has (1000 + k) β := by
    unfold Gh.has at hβ ⊢
    simp only [hoN k hk] at hβ
    exact hβ
   have hβ' : G2.has (1000 + l) β := by
    unfold Gh.has at hβ' ⊢
    simp only [hoN l hl] at hβ'
    exact hβ'
   have := hs.at_inj _ _ _ _ β (hbv k _ hx) (hbv l _ hx') (hreal k _ hx) (hreal l _ hx') hβ hβ'
   omega
 cases e with
 | normal => exact key hq
 | ret => exact key hq
 | _ => exact hq.elim
def nu (ls ns : List Nat) (b : Nat) : Nat := if Bz b then ls.getD (b - 90000) 0 else ns.getD b 0
def Ll (f : Nat → Nat) : List Nat → List (Bi × Bi) → List (Nat × Bi)
 | l :: ls, x :: xs => (l, x.1.ren f) :: Ll f ls xs
 | _, _ => []
def GT (f : Nat → Nat) : List Nat → List (Bi × Bi) → List Bool → List (Nat × Bi) → List (Nat × Bi)
 | l :: ls, x :: xs, c :: cs, r => if c then (l, x.2.ren f) :: GT f ls xs cs r else GT f ls xs cs r
 | _, _, _, r => r
def newB (f : Nat → Nat) : List Nat → List Bi → List (Nat × Bi)
 | n :: ns, x :: xs => (n, x.ren f) :: newB f ns xs
 | _, _ => []
def Qg : List (Bi × Bi) → List Bool → Prop
 | x :: xs, c :: cs => (c = false → x.1 = x.2) ∧ Qg xs cs
 | [], [] => True
 | _, _ => False
theorem Mr {f : Nat → Nat} {bx : Nat → Option Bi} : ∀ {ls : List Nat} {lent : List (Bi × Bi)}, ls.length = lent.length → zFS bx (Ll f ls lent) → ∀ (k : Nat) (x : Bi × Bi), lent[k]? = some x → bx (nm ls k) = some (x.1.ren f)
 | [], [], _, _, k, y, hk => by simp at hk
 | l :: ls, x :: xs, hl, h, 0, y, hk => by simp at hk; subst hk; exact h.1
 | l :: ls, x :: xs, hl, h, k + 1, y, hk => by
  have := Mr (ls := ls) (lent := xs) (by simpa using hl) h.2 k y (by simpa using hk)
  simpa [nm] using this
theorem MB {f : Nat → Nat} {bx : Nat → Option Bi} {r : List (Nat × Bi)} : ∀ {ls : List Nat} {lent : List (Bi × Bi)} {ch : List Bool}, ls.length = lent.length → ls.Nodup → Qg lent ch → (∀ c, c ∈ ls → By bx r c = bx c) → zFS bx (Ll f ls lent) →
  (∀ c, c ∉ ls → By bx (GT f ls lent ch r) c = By bx r c) ∧ ∀ (k : Nat) (x : Bi × Bi), lent[k]? = some x → By bx (GT f ls lent ch r) (nm ls k) = some (x.2.ren f)
 | [], [], [], _, _, _, _, _ => ⟨fun _ _ => rfl, fun k x h => by simp at h⟩
 | [], [], _ :: _, _, _, h, _, _ => h.elim
 | l :: ls, x :: xs, [], hl, hnd, hc, hr, hp => by cases hc
 | l :: ls, x :: xs, c :: cs, hl, hnd, hc, hr, hp => by
  have ih := MB (f := f) (bx := bx) (r := r) (ls := ls) (lent := xs) (ch := cs) (by simpa using hl) (zB5.1 hnd).2 hc.2 (fun c hc => hr c (by simp [hc])) hp.2
  have hln : l ∉ ls := (zB5.1 hnd).1
  have hl0 : By bx (GT f ls xs cs r) l = bx l := (ih.1 l hln).trans (hr l (by simp))
  refine ⟨fun d hd => ?_, fun k y hk => ?_⟩
  ·simp only [vT, not_or] at hd
   simp only [GT]
   split
   ·simp only [By]; rw [if_neg hd.1]; exact ih.1 d hd.2
   ·exact ih.1 d hd.2
  ·cases k with
   | zero =>
    simp at hk; subst hk
    simp only [GT, nm, List.getD_cons_zero]
    split
    ·simp [By]
    ·rename_i hcc
     have hcf : c = false := by simpa using hcc
     rw [hl0, hp.1, hc.1 hcf]
   | succ k =>
    have hk' : xs[k]? = some y := by simpa using hk
    have hlt := AA hk'
    have hlt2 : k < ls.length := by simp at hl; omega
    have e : nm (l :: ls) (k + 1) = nm ls k := by simp [nm]
    rw [e]
    have hne : nm ls k ≠ l := fun h => hln (h ▸ Ef hlt2)
    simp only [GT]
    split
    ·simp only [By]; rw [if_neg hne]; exact ih.2 k y hk'
    ·exact ih.2 k y hk'
theorem Ls {f : Nat → Nat} {bx : Nat → Option Bi} : ∀ {ns : List Nat} {rv : List Bi} {c : Nat}, ns.length = rv.length → ns.Nodup →
  (c ∉ ns → By bx (newB f ns rv) c = bx c) ∧ ∀ (k : Nat) (x : Bi), rv[k]? = some x → By bx (newB f ns rv) (nm ns k) = some (x.ren f)
 | [], [], c, _, _ => ⟨fun _ => rfl, fun k x h => by simp at h⟩
 | n :: ns, x :: xs, c, hl, hnd => by
  have ih := Ls (f := f) (bx := bx) (ns := ns) (rv := xs) (c := c) (by simpa using hl) (zB5.1 hnd).2
  refine ⟨fun hc => ?_, fun k y hk => ?_⟩
  ·simp only [vT, not_or] at hc
   simp only [newB, By]
   rw [if_neg hc.1]; exact ih.1 hc.2
  ·cases k with
   | zero => simp at hk; subst hk; simp [newB, By, nm]
   | succ k =>
    have hk' : xs[k]? = some y := by simpa using hk
    have hlt := AA hk'
    have hlt2 : k < ns.length := by simp at hl; omega
    have : nm (n :: ns) (k + 1) = nm ns k := by simp [nm]
    rw [this]
    have hne : nm ns k ≠ n := fun e => (zB5.1 hnd).1 (e ▸ Ef hlt2)
    simp only [newB, By]
    rw [if_neg hne]
    exact (Ls (f := f) (bx := bx) (ns := ns) (rv := xs) (c := c) (by simpa using hl) (zB5.1 hnd).2).2 k y hk'
theorem FG {ls ns : List Nat} {k : Nat} (h : k < 1000) : nu ls ns (90000 + k) = nm ls k := by
 unfold nu nm; rw [GN h, if_pos rfl, show 90000 + k - 90000 = k from by omega]
theorem JZ {ls ns : List Nat} {k : Nat} (h : k < 90000) : nu ls ns k = nm ns k := by
 unfold nu nm; rw [HD h (zB8 _), if_neg (by simp)]
theorem Ly {bx : Nat → Option Bi} {c : Nat} : ∀ {wb : List (Nat × Bi)}, (bx c).isSome = true → (By bx wb c).isSome = true
 | [], h => h
 | p :: ps, h => by
  simp only [By]; split
  ·rfl
  ·exact Ly h
section run
variable {dr : Bool} {Q : St → Prop} {r i : Nat} {st : St} {log : List (Nat × BU)} {o : Oper} {gs : List (Operand × D)}
theorem QV {f s : Nat} {xs : List Operand} {ds0 ds : List D} {lent : List (Bi × Bi)} {rv : List Bi} {res : D} {ts : Array TypeId} (ls ns : List Nat) (ch : List Bool) (hc : Do P f ds lent rv res) (hat : At st.env ops i X.n (.call ⟨.value (.func f), xs.toArray, ts⟩) s gs)
  (hf : Az P f = true) (hl : xs.length = ds0.length) (hds : ds0.map D.nrm = ds.map (D.ren (nu ls ns)))
  (hll : ls.length = lent.length) (hln : ls.Nodup) (hns : ns.length = rv.length) (hndl : Is ns) (hch : Qg lent ch)
  (hlim : (zB9 lent.length 1000 && zB9 rv.length 1000) = true) (hre : (lent.all fun x => x.1.real && x.2.real) = true)
  (hnm : (F2 lent.length rv.length res.names && (lent.all fun x => F2 lent.length rv.length x.2.names) && rv.all fun x => F2 lent.length rv.length x.names) = true) : LR P X ops i ⟨gs ++ FR xs ds0, Ll (nu ls ns) ls lent, some s, some (res.ren (nu ls ns)), GT (nu ls ns) ls lent ch (newB (nu ls ns) ns rv), ns⟩ := by
 obtain ⟨o, ho, hop, hd, hn, hg, hgp⟩ := hat.out
 have hnd := hndl.1
 rw [uT] at hlim
 have hlim1 := vP hlim.1
 have hlim2 := vP hlim.2
 rw [uT, uT] at hnm
 obtain ⟨⟨hnmR, hnmL⟩, hnmV⟩ := hnm
 have hre' : ∀ x, x ∈ lent → x.1.real = true ∧ x.2.real = true := fun x hx => by
  have := uU.1 hre x hx
  rw [uT] at this
  exact this
 intro st a w K Q' hs hpre hK
 obtain ⟨G, hs⟩ := hs
 have hx := (Aj.1 hpre.r).2
 have hw := hs.wanted hg (Aj.1 hpre.r).1
 have hnew := hpre.n
 have hlb := hpre.b
 have hnew' : ∀ c, c ∈ ns → st.bx c = none := by
  have : ∀ {l : List Nat}, Kg st.bx l → ∀ c, c ∈ l → st.bx c = none := by
   intro l
   induction l with
   | nil => intro _ c hc; cases hc
   | cons b l ih =>
    intro h c hc
    rcases vT.1 hc with e | e
    ·subst e; exact h.1
    ·exact ih h.2 c e
  exact this hnew
 have hget := fun k x hk => Mr (f := nu ls ns) hll hlb k x hk
 have hlk : ∀ k, k < lent.length → st.bx (nm ls k) = some (lent[k]!.1.ren (nu ls ns)) ∧ (lent[k]!.1.ren (nu ls ns)).real = true := fun k hk => by
  have hx0 : lent[k]? = some lent[k]! := by simp [hk]
  exact ⟨hget k _ hx0, by rw [Ht]; exact (hre' _ (lM hx0)).1⟩
 have hlsns : ∀ c, c ∈ ls → c ∉ ns := fun c hc hm => by
  obtain ⟨k, hk, e⟩ := Lf hc
  have := (hlk k (by omega)).1
  rw [e, hnew' c hm] at this; cases this
 unfold wpOp
 rw [ho]
 simp only [hw, if_true]
 refine .inl ?_
 unfold Oper.wp
 have hrun : (execOp a.eval o).run P w = .ok (.enter f (xs.toArray.map a.eval)) w := by
  simp only [execOp, hop]
  exact In hf rfl
 rw [hrun]
 show Calls P f (xs.toArray.map a.eval) w _
 let Gc : Gh := { S := G.S, loc := fun b => G.loc (nu ls ns b), hd := fun b => G.hd (nu ls ns b), more := fun b => G.more (nu ls ns b) }
 have hGc : ∀ k β, k < lent.length → (Gc.has (90000 + k) β ↔ G.has (nm ls k) β) := fun k β hk => by
  unfold Gh.has; simp only [Gc]; rw [FG (by omega)]
 refine (hc w Gc (xs.toArray.map a.eval) hs.S_lt hs.gok ?_ ?_ ?_ ?_ ?_).mono ?_
 ·intro k x hk
  refine HX (f := nu ls ns) ?_
  rw [FG (by have := AA hk; omega)]
  exact hs.blk _ _ (hget k x hk)
 ·intro k β hk hβ
  have h1 := hlk k hk
  exact (hs.at_ok _ _ β h1.1 h1.2 ((hGc k β hk).1 hβ)).2
 ·intro k l β hk hl' hβ hβ'
  have h1 := hlk k hk
  have h2 := hlk l hl'
  have := hs.at_inj _ _ _ _ β h1.1 h2.1 h1.2 h2.2 ((hGc k β hk).1 hβ) ((hGc l β hl').1 hβ')
  exact NX hln (by omega) (by omega) this
 ·have h1 := congrArg zC9 hds
  simp at h1
  simp; omega
 ·intro j d hj
  have hj2 : (ds.map (D.ren (nu ls ns)))[j]? = some (d.ren (nu ls ns)) := by rw [uY, hj]; rfl
  rw [← hds, uY] at hj2
  obtain ⟨d0, hj0, hd0⟩ : ∃ d0, ds0[j]? = some d0 ∧ d0.nrm = d.ren (nu ls ns) := by
   cases hx0 : ds0[j]? with
   | none => rw [hx0] at hj2; cases hj2
   | some d0 => rw [hx0] at hj2; exact ⟨d0, rfl, by simpa using hj2⟩
  have hlt := AA hj0
  have hxj : xs[j]? = some (xs[j]'(by omega)) := by simp [show j < xs.length from by omega]
  have hop' := Hq hl hx j _ d0 hxj hj0
  have hcell : Au (xs.toArray.map a.eval) j = a.eval (xs[j]'(by omega)) := by simp [Au, show j < xs.length from by omega]
  rw [hcell]
  refine HN (f := nu ls ns) ?_
  rw [← hd0]
  exact (hs.opd hop').nrm
 ·rintro e w' ⟨v, G', rfl, hbel, hS1, hS2, hres', hpost, hvec, hsame, hlS, hvat, hvinj⟩
  show K (a.put o.dst v) w'
  rw [hd]
  let G2 : Gh := { S := G'.S, loc := fun c => if c ∈ ns then G'.loc (ns.idxOf c) else G.loc c, hd := fun c => if c ∈ ns then G'.hd (ns.idxOf c) else G.hd c, more := fun c => if c ∈ ns then G'.more (ns.idxOf c) else G.more c }
  have hidx : ∀ k, k < ns.length → ns.idxOf (nm ns k) = k := by
   intro k hk
   have hm := Ef hk
   have h1 : ns.idxOf (nm ns k) < ns.length := List.idxOf_lt_length_of_mem hm
   refine NX hnd h1 hk ?_
   have h2 := List.getElem_idxOf h1
   show ns.getD (ns.idxOf (nm ns k)) 0 = nm ns k
   rw [lD, vK h1, vV, h2]
  have hvia : G'.via G2 (nu ls ns) (fun b => GP lent.length rv.length b = true) := by
   have key : ∀ b, GP lent.length rv.length b = true → (∃ k, k < lent.length ∧ b = 90000 + k) ∨ (b < rv.length ∧ Bz b = false) := by
    intro b hb
    unfold GP at hb
    split at hb
    ·rename_i h
     obtain ⟨k, _, rfl⟩ := HV h
     rw [zC3] at hb
     exact .inl ⟨k, by omega, rfl⟩
    ·rename_i h
     rw [zC3] at hb
     exact .inr ⟨hb, by simpa using h⟩
   refine ⟨fun β h => h, fun b hb => ?_, fun b hb => ?_, fun b hb => ?_⟩
   ·rcases key b hb with ⟨k, hk, rfl⟩ | ⟨hb1, hb2⟩
    ·rw [FG (by omega)]
     have hni : nm ls k ∉ ns := hlsns _ (Ef (by omega))
     simp only [G2]; rw [if_neg hni, (hsame k hk).1]; simp only [Gc]; rw [FG (by omega)]
    ·rw [JZ (by omega)]
     simp only [G2]; rw [if_pos (Ef (by omega)), hidx b (by omega)]
   ·rcases key b hb with ⟨k, hk, rfl⟩ | ⟨hb1, hb2⟩
    ·rw [FG (by omega)]
     have hni : nm ls k ∉ ns := hlsns _ (Ef (by omega))
     simp only [G2]; rw [if_neg hni, (hsame k hk).2.1]; simp only [Gc]; rw [FG (by omega)]
    ·rw [JZ (by omega)]
     simp only [G2]; rw [if_pos (Ef (by omega)), hidx b (by omega)]
   ·rcases key b hb with ⟨k, hk, rfl⟩ | ⟨hb1, hb2⟩
    ·rw [FG (by omega)]
     have hni : nm ls k ∉ ns := hlsns _ (Ef (by omega))
     simp only [G2]; rw [if_neg hni, (hsame k hk).2.2]; simp only [Gc]; rw [FG (by omega)]
    ·rw [JZ (by omega)]
     simp only [G2]; rw [if_pos (Ef (by omega)), hidx b (by omega)]
  have hext : G.ext G2 (fun b => (st.bx b).isSome = true) := by
   have : ∀ b, (st.bx b).isSome = true → b ∉ ns := fun b hb hm => by rw [hnew' b hm] at hb; cases hb
   exact ⟨fun β h => hS1 β h, fun b hb => by simp only [G2]; rw [if_neg (this b hb)], fun b hb => by simp only [G2]; rw [if_neg (this b hb)], fun b hb => by simp only [G2]; rw [if_neg (this b hb)]⟩
  have hnotL : ∀ β, PS Gc lent.length β → ∃ k, k < lent.length ∧ G.has (nm ls k) β := fun β ⟨k, hk, hb⟩ => ⟨k, hk, (hGc k β hk).1 hb⟩
  have hwS : ∀ β, G.S β → w'.heap[β]? = w.heap[β]? := fun β hβ => hbel.block β (hs.S_lt β hβ) fun h => by
   obtain ⟨k, hk, hg⟩ := hnotL β h
   exact (hs.at_ok _ _ β (hlk k hk).1 (hlk k hk).2 hg).2.2 hβ
  have hsz := hbel.size
  have hle := hs.below.size
  have hng := fun c => Ls (f := nu ls ns) (bx := st.bx) (ns := ns) (rv := rv) (c := c) hns hnd
  have hbg := MB (f := nu ls ns) (bx := st.bx) (r := newB (nu ls ns) ns rv) (ls := ls) (lent := lent) (ch := ch) hll hln hch (fun c hc => (hng c).1 (hlsns c hc)) hlb
  have hblk : ∀ c k, By st.bx (GT (nu ls ns) ls lent ch (newB (nu ls ns) ns rv)) c = some k →
    (c ∉ ns ∧ c ∉ ls ∧ st.bx c = some k) ∨ (∃ m x, m < ns.length ∧ nm ns m = c ∧ rv[m]? = some x ∧ k = x.ren (nu ls ns)) ∨ (∃ m x, m < ls.length ∧ nm ls m = c ∧ lent[m]? = some x ∧ k = x.2.ren (nu ls ns)) := by
   intro c k hc
   by_cases hm : c ∈ ls
   ·obtain ⟨m, hm1, hm2⟩ := Lf hm
    have hlx : lent[m]? = some (lent[m]'(by omega)) := by simp [show m < lent.length from by omega]
    have := hbg.2 m _ hlx
    rw [hm2, hc] at this
    exact .inr (.inr ⟨m, _, hm1, hm2, hlx, by simpa using this⟩)
   ·rw [hbg.1 c hm] at hc
    by_cases hm2 : c ∈ ns
    ·obtain ⟨m, hm1, hm3⟩ := Lf hm2
     have hrx : rv[m]? = some (rv[m]'(by omega)) := by simp [show m < rv.length from by omega]
     have := (hng c).2 m _ hrx
     rw [hm3, hc] at this
     exact .inr (.inl ⟨m, _, hm1, hm3, hrx, by simpa using this⟩)
    ·rw [(hng c).1 hm2] at hc; exact .inl ⟨hm2, hm, hc⟩
  have hdom : ∀ b, GP lent.length rv.length b = true → (By st.bx (GT (nu ls ns) ls lent ch (newB (nu ls ns) ns rv)) (nu ls ns b)).isSome = true := by
   intro b hb
   unfold GP at hb
   split at hb
   ·rename_i h
    obtain ⟨k, _, rfl⟩ := HV h
    rw [zC3] at hb
    have hk : k < lent.length := by omega
    rw [FG (by omega), hbg.2 k _ (show lent[k]? = some lent[k] by simp [hk])]; rfl
   ·rename_i h
    rw [zC3] at hb
    have hni : nm ns b ∉ ls := fun hm => hlsns _ hm (Ef (by omega))
    rw [JZ (by omega), hbg.1 _ hni, (hng (nm ns b)).2 b _ (show rv[b]? = some rv[b] by simp [hb])]; rfl
  have hren : ∀ l : List Nat, F2 lent.length rv.length l = true → ∀ b, b ∈ l → GP lent.length rv.length b = true := fun l h b hb => uU.1 h b hb
  have hrenB : ∀ (k : Bi) b, b ∈ (k.ren (nu ls ns)).names → ∃ b0, b0 ∈ k.names ∧ b = nu ls ns b0 := by
   intro k b hb
   cases k with
   | box cs =>
    obtain ⟨c, hc, hb⟩ := A9.1 hb
    obtain ⟨c0, h0, rfl⟩ := zB0.1 hc
    obtain ⟨b0, h1, h2⟩ := Iv hb
    exact ⟨b0, A9.2 ⟨c0, h0, h1⟩, h2⟩
   | vec e rows => cases hb
   | mp es => cases hb
   | dvec e cols rs => cases hb
   | pvec n e cols rs => cases hb
   | hol e cols i0 k0 c rs => exact ⟨c, by simp [Bi.names], by simpa [Bi.ren, Bi.names] using hb⟩
   | gone => cases hb
  have hhasN : ∀ m β, m < ns.length → (G2.has (nm ns m) β ↔ G'.has m β) := fun m β hm => by
   have hmd : GP lent.length rv.length m = true := by
    unfold GP; rw [HD (show m < 90000 by omega) (zB8 _), if_neg (by simp), zC3]; omega
   have := hvia.has (β := β) hmd
   rwa [JZ (by omega)] at this
  have key : Cp P X G2 ⟨st.env, By st.bx (GT (nu ls ns) ls lent ch (newB (nu ls ns) ns rv))⟩ a w' := by
   refine hs.frame (fun c hc => Ly hc) hext hwS ?_ ?_ ?_ ?_ ?_ ?_ (fun b hb => by
    have : b ∉ ns := fun hm => by rw [hndl.2 b hm] at hb; cases hb
    simp only [G2]; rw [if_neg this, if_neg this, if_neg this]; exact ⟨rfl, rfl, rfl⟩)
   ·intro c k hc
    rcases hblk c k hc with ⟨_, h0, h1⟩ | ⟨m, x, h1, h2, h3, h4⟩ | ⟨m, x, h1, h2, h3, h4⟩
    ·refine .inl ⟨h1, fun β hr hβ => hbel.block β (hs.at_ok c k β h1 hr hβ).2.1 fun hL => ?_⟩
     obtain ⟨j, hj, hg⟩ := hnotL β hL
     exact h0 ((hs.at_inj _ _ _ _ β h1 (hlk j hj).1 hr (hlk j hj).2 hβ hg) ▸ Ef (by omega))
    ·subst h4
     have hmd : GP lent.length rv.length m = true := by
      unfold GP; rw [HD (show m < 90000 by omega) (zB8 _), if_neg (by simp), zC3]; omega
     have hxn := hren _ (uU.1 hnmV x (lM h3))
     refine .inr ⟨?_, fun c' hc' => ?_⟩
     ·have := (hvec m x h3).ren hvia hmd hxn
      rwa [JZ (by omega), h2] at this
     ·obtain ⟨b0, hb0, rfl⟩ := hrenB x c' hc'
      exact hdom b0 (hxn b0 hb0)
    ·subst h4
     have hmd : GP lent.length rv.length (90000 + m) = true := by
      unfold GP; rw [GN (by omega), if_pos rfl, zC3]; omega
     have hxn := hren _ (uU.1 hnmL x (lM h3))
     refine .inr ⟨?_, fun c' hc' => ?_⟩
     ·have := (hpost m x h3).ren hvia hmd hxn
      rwa [FG (by omega), h2] at this
     ·obtain ⟨b0, hb0, rfl⟩ := hrenB x.2 c' hc'
      exact hdom b0 (hxn b0 hb0)
   ·intro c k β hc hr hβ
    rcases hblk c k hc with ⟨h0, _, h1⟩ | ⟨m, x, h1, h2, h3, h4⟩ | ⟨m, x, h1, h2, h3, h4⟩
    ·have hβ := (hext.has (by rw [h1]; rfl)).1 hβ
     have := hs.at_ok c k β h1 hr hβ
     refine ⟨this.1, by omega, fun h => ?_⟩
     rcases hS2 β h with h | h
     ·exact this.2.2 h
     ·omega
    ·rw [← h2, hhasN m β h1] at hβ
     have := hvat m β (by omega) hβ
     exact ⟨.new (by omega), this.2.1, this.2.2⟩
    ·subst h2
     have h5 := hlk m (by omega)
     have hβ := (hext.has (by rw [h5.1]; rfl)).1 hβ
     have := hs.at_ok _ _ β h5.1 h5.2 hβ
     refine ⟨this.1, by omega, hlS m β (by omega) ?_⟩
     have h6 := hsame m (by omega)
     unfold Gh.has at hβ ⊢
     rw [h6.1, h6.2.2]
     simp only [Gc]; rw [FG (by omega)]; exact hβ
   ·intro c c' k k' β hc hc' hr hr' hβ hβ'
    have old : ∀ c k, By st.bx (GT (nu ls ns) ls lent ch (newB (nu ls ns) ns rv)) c = some k → k.real = true → G2.has c β → (∃ k0, st.bx c = some k0 ∧ k0.real = true ∧ G.has c β) ∨ ∃ m, m < ns.length ∧ nm ns m = c ∧ G'.has m β := by
     intro c k hc hr hβ
     rcases hblk c k hc with ⟨h0, _, h1⟩ | ⟨m, x, h1, h2, h3, h4⟩ | ⟨m, x, h1, h2, h3, h4⟩
     ·exact .inl ⟨k, h1, hr, (hext.has (by rw [h1]; rfl)).1 hβ⟩
     ·rw [← h2, hhasN m β h1] at hβ
      exact .inr ⟨m, h1, h2, hβ⟩
     ·subst h2
      have h5 := hlk m (by omega)
      exact .inl ⟨_, h5.1, h5.2, (hext.has (by rw [h5.1]; rfl)).1 hβ⟩
    rcases old c k hc hr hβ with ⟨k0, h1, h2, h3⟩ | ⟨m, h1, h2, h3⟩ <;> rcases old c' k' hc' hr' hβ' with ⟨k0', h1', h2', h3'⟩ | ⟨m', h1', h2', h3'⟩
    ·exact hs.at_inj c c' k0 k0' β h1 h1' h2 h2' h3 h3'
    ·have h5 := hvat m' β (by omega) h3'
     have h6 := (hs.at_ok c k0 β h1 h2 h3).2.1
     omega
    ·have h5 := hvat m β (by omega) h3
     have h6 := (hs.at_ok c' k0' β h1' h2' h3').2.1
     omega
    ·have := hvinj m m' β (by omega) (by omega) h3 h3'
     rw [← h2, ← h2', this]
   ·intro β h
    rcases hS2 β h with h | h
    ·have := hs.S_lt β h; omega
    ·exact h.2
   ·intro β h
    rcases hS2 β h with h | h
    ·exact hs.S_src β h
    ·exact .inr (by omega)
   ·refine hs.below.trans ⟨hbel.os, hbel.tape, hbel.output, hbel.size, hbel.drawn, fun k hk hnl => hbel.block k (by omega) fun hL => ?_⟩
    obtain ⟨j, hj, hg⟩ := hnotL k hL
    rcases (hs.at_ok _ _ k (hlk j hj).1 (hlk j hj).2 hg).1.2 with h | h
    ·omega
    ·exact hnl h
  refine hK _ _ ⟨G2, key.put (some s) (some (res.ren (nu ls ns))) v (by intro t e; cases e; exact hn) ?_⟩
  rintro d ⟨⟩
  refine ⟨hres'.ren hvia (hren _ hnmR), fun b hb => ?_⟩
  obtain ⟨b0, h1, h2⟩ := H9 hb
  rw [h2]
  exact hdom b0 (hren _ hnmR b0 h1)
theorem Fc {f s : Nat} {xs : List Operand} {ds0 ds : List D} {lent : List (Bi × Bi)} {rv : List Bi} {res : D} {ts : Array TypeId} (ls ns : List Nat) (ch : List Bool) (hc : Do P f ds lent rv res) (hat : At st.env ops i X.n (.call ⟨.value (.func f), xs.toArray, ts⟩) s gs)
  (hf : Az P f = true) (hl : xs.length = ds0.length) (hx : DL st.env (FR xs ds0)) (hds : ds0.map D.nrm = ds.map (D.ren (nu ls ns)))
  (hll : ls.length = lent.length) (hln : ls.Nodup) (hlb : zFS st.bx (Ll (nu ls ns) ls lent)) (hns : ns.length = rv.length) (hndl : Is ns) (hnew : Kg st.bx ns) (hch : Qg lent ch)
  (hlim : (zB9 lent.length 1000 && zB9 rv.length 1000) = true) (hre : (lent.all fun x => x.1.real && x.2.real) = true)
  (hnm : (F2 lent.length rv.length res.names && (lent.all fun x => F2 lent.length rv.length x.2.names) && rv.all fun x => F2 lent.length rv.length x.names) = true)
  (next : A1 P X ops dr Q r (i + 1) (BU.upd ⟨gs ++ FR xs ds0, Ll (nu ls ns) ls lent, some s, some (res.ren (nu ls ns)), GT (nu ls ns) ls lent ch (newB (nu ls ns) ns rv), ns⟩ st) ((i, ⟨gs ++ FR xs ds0, Ll (nu ls ns) ls lent, some s, some (res.ren (nu ls ns)), GT (nu ls ns) ls lent ch (newB (nu ls ns) ns rv), ns⟩) :: log)) : A1 P X ops dr Q (r + 1) i st log := by
 obtain ⟨o, ho, hop, hd, hn, hg, hgp⟩ := hat.out
 exact A1.step next ⟨Aj.2 ⟨hgp, hx⟩, hlb, hnew⟩ (QV ls ns ch hc hat hf hl hds hll hln hns hndl hch hlim hre hnm)
end run
end Go.Lift
namespace Go.Lift
open Go.RowKit
variable {P : Program} {X : F6} {ops : Array Oper}
def Nn {α : Type} (xs : List α) (q : Nat) (ys : List α) : List α := xs.take q ++ ys ++ xs.drop (q + ys.length)
theorem LI {α : Type} {xs ys : List α} {q : Nat} (h : q + ys.length ≤ xs.length) : (Nn xs q ys).length = xs.length := by
 unfold Nn; simp; omega
theorem Qe {α : Type} {xs ys : List α} {q : Nat} (h : q + ys.length ≤ xs.length) (i : Nat) : (Nn xs q ys)[i]? = if q ≤ i ∧ i < q + ys.length then ys[i - q]? else xs[i]? := by
 unfold Nn
 by_cases h1 : i < q
 ·rw [if_neg (by omega), List.append_assoc, zA1 (by simp; omega), vM h1]
 ·by_cases h2 : i < q + ys.length
  ·rw [if_pos (by omega), zA1 (by simp; omega), vY (by simp; omega)]
   congr 1; simp; omega
  ·rw [if_neg (by omega), vY (by simp; omega), zA5]
   congr 1; simp; omega
theorem Tj {α β : Type} (f : α → β) (xs ys : List α) (q : Nat) : Nn (xs.map f) q (ys.map f) = (Nn xs q ys).map f := by
 unfold Nn; simp
inductive Mg : D → Nat → Nat → List (List T) → Nat → Nat → Prop where
 | own (b e : Nat) (rows : List (List T)) : Mg (.e (.one (.own b))) b e rows 0 rows.length
 | view (b e : Nat) (rows : List (List T)) (lo len : Nat) (h : lo + len ≤ rows.length) : Mg (.e (.one (.view b e lo len))) b e rows lo len
inductive Ov : D → List (Nat × Bi) → Nat → List (List T) → Prop where
 | of {d : D} {rb : List (Nat × Bi)} {e : Nat} {rows : List (List T)} (h : Uk d rb e rows) : Ov d rb e rows
 | view (b e : Nat) (rows : List (List T)) (lo len : Nat) (h : lo + len ≤ rows.length) : Ov (.e (.one (.view b e lo len))) [(b, .vec e rows)] e ((rows.drop lo).take len)
theorem Qr (q : Addr) : q.add 0 = q := by unfold Addr.add; simp
theorem Pg {G : Gh} {w : World} {b e : Nat} {rows : List (List T)} (h : DY P w G b (.vec e rows)) : ∃ a cap, G.hd b = .slice a rows.length cap ∧ rows.length ≤ cap ∧
  (0 < cap → ∃ β arr el, a = some ⟨β, 0, none⟩ ∧ G.loc b = some β ∧ w.heap[β]? = some (.cells arr el (0, 0)) ∧ arr.size = cap * e ∧ CU w G.S arr e 0 rows) := by
 rcases h with ⟨a, h1, h2, _⟩ | ⟨β, cap, arr, el, h0, h1, h2, h3, h4, h5, h6⟩
 ·subst h2; exact ⟨a, 0, h1, zB8 _, fun h => by cases h⟩
 ·exact ⟨_, cap, h1, h3, fun _ => ⟨β, arr, el, rfl, h0, h2, h4, by rw [h4, uZ]; exact uV e h3, h5, fun i row j t hi hj => by rw [uZ]; exact h6 i row j t hi hj⟩⟩
section run
variable {dr : Bool} {Q : St → Prop} {r i : Nat} {st : St} {log : List (Nat × BU)} {o : Oper} {gs : List (Operand × D)}
theorem Cp.dstV {G : Gh} {a : Act} {w : World} (hs : Cp P X G st a w) {x : Operand} {d : D} {b e lo len : Nat} {rows : List (List T)} (hx : Lift.opd st.env x = some d) (h : Mg d b e rows lo len) (hb : st.bx b = some (.vec e rows)) :
  ∃ p cap', a.eval x = .slice p len cap' ∧ rows.length - lo ≤ cap' ∧ lo + len ≤ rows.length ∧
   (lo < rows.length → ∃ β cap arr el, G.loc b = some β ∧ G.hd b = .slice (some ⟨β, 0, none⟩) rows.length cap ∧ rows.length ≤ cap ∧ p = some ⟨β, lo * e, none⟩ ∧ w.heap[β]? = some (.cells arr el (0, 0)) ∧ arr.size = cap * e ∧ CU w G.S arr e 0 rows) := by
 obtain ⟨a0, cap, h1, h2, h3⟩ := Pg (hs.blk b _ hb)
 have hR := hs.opd hx
 cases h with
 | own =>
  obtain ⟨hR, _⟩ : D0 P w G (a.eval x) (.own b) := hR
  refine ⟨a0, cap, hR.trans h1, by omega, by omega, fun hlt => ?_⟩
  obtain ⟨β, arr, el, g1, g2, g3, g4, g5⟩ := h3 (by omega)
  subst g1
  exact ⟨β, cap, arr, el, g2, h1, h2, by simp, g3, g4, g5⟩
 | view _ _ _ _ _ h =>
  obtain ⟨a1, n1, cap1, p, k1, k2, k3, k4⟩ : D0 P w G (a.eval x) (.view b e lo len) := hR
  rw [h1] at k1
  cases k1
  refine ⟨p, cap - lo, k3, by omega, h, fun hlt => ?_⟩
  obtain ⟨β, arr, el, g1, g2, g3, g4, g5⟩ := h3 (by omega)
  subst g1
  refine ⟨β, cap, arr, el, g2, h1, h2, ?_, g3, g4, g5⟩
  rw [k4 (by omega)]
  simp [Addr.add_mk]
theorem Cp.srcW {G : Gh} {a : Act} {w : World} (hs : Cp P X G st a w) {x : Operand} {d : D} {rb : List (Nat × Bi)} {e : Nat} {rows : List (List T)} (hx : Lift.opd st.env x = some d) (h : Ov d rb e rows) (hb : zFS st.bx rb) :
  ∃ p cap, a.eval x = .slice p rows.length cap ∧ (rows = [] ∨ ∃ β off arr el fz, p = some ⟨β, off, none⟩ ∧ w.heap[β]? = some (.cells arr el fz) ∧ CU w G.S arr e off rows) := by
 cases h with
 | of h =>
  have hR := hs.opd hx
  cases h with
  | own b e rows =>
   obtain ⟨hR, _⟩ : D0 P w G (a.eval x) (.own b) := hR
   obtain ⟨a0, cap, h1, h2, h3⟩ := Pg (hs.blk b _ hb.1)
   refine ⟨a0, cap, hR.trans h1, ?_⟩
   cases rows with
   | nil => exact .inl rfl
   | cons y ys =>
    obtain ⟨β, arr, el, g1, g2, g3, g4, g5⟩ := h3 (by simp at h2; omega)
    exact .inr ⟨β, 0, arr, el, (0, 0), g1, g3, g5⟩
  | sl e rows hrow =>
   have hR : Ci w G.S (a.eval x) (.sl rows) := hR
   generalize a.eval x = v at hR
   cases hR with
   | nil a' cap => exact ⟨_, _, rfl, .inl rfl⟩
   | sl β off cap e' arr el' fz rows h1 h2 h3 h4 h5 h6 =>
    refine ⟨_, _, rfl, ?_⟩
    cases rows with
    | nil => exact .inl rfl
    | cons r0 rs =>
     have he : e' = e := by rw [← hrow 0 r0 rfl]; exact (h5 0 r0 rfl).symm
     subst he
     exact .inr ⟨β, off, arr, el', fz, rfl, h2, h4, h5, h6⟩
  | nil e =>
   have hR : Ci w G.S (a.eval x) .nil0 := hR
   generalize a.eval x = v at hR
   cases hR with
   | nil0 a' => exact ⟨_, _, rfl, .inl rfl⟩
 | view b _ rows lo len h =>
  obtain ⟨p, cap', h1, h2, h3, h4⟩ := hs.dstV hx (.view b e rows lo len h) hb.1
  have hlen : ((rows.drop lo).take len).length = len := by simp; omega
  refine ⟨p, cap', by rw [hlen]; exact h1, ?_⟩
  by_cases hz : len = 0
  ·exact .inl (by rw [hz, List.take_zero])
  ·obtain ⟨β, cap, arr, el, g1, g2, g3, g4, g5, g6, g7⟩ := h4 (by omega)
   refine .inr ⟨β, lo * e, arr, el, (0, 0), g4, g5, ?_, ?_, ?_⟩
   ·rw [hlen, g6, ← zA6]; exact uV e (by omega)
   ·intro i row hi
    have := AA hi
    rw [hlen] at this
    rw [vM this, zA5] at hi
    exact g7.2.1 _ row hi
   ·intro i row j t hi hj
    have := AA hi
    rw [hlen] at this
    rw [vM this, zA5] at hi
    have := g7.2.2 _ row j t hi hj
    rwa [uZ, zA6] at this
theorem CU.take {w : World} {S : Nat → Prop} {arr : Array Value} {e off n : Nat} {rows : List (List T)} (h : CU w S arr e off rows) : CU w S arr e off (rows.take n) := by
 refine ⟨?_, ?_, ?_⟩
 ·have := h.1
  have h2 : (rows.take n).length * e ≤ rows.length * e := uV e (by simp; omega)
  omega
 ·intro i row hi
  have := AA hi
  simp at this
  rw [vM (by omega)] at hi
  exact h.2.1 i row hi
 ·intro i row j t hi hj
  have := AA hi
  simp at this
  rw [vM (by omega)] at hi
  exact h.2.2 i row j t hi hj
theorem NC {w : World} {S : Nat → Prop} {p : Option Addr} {len cap e n : Nat} {rows : List (List T)} (hn : n ≤ rows.length) (h : rows = [] ∨ ∃ β off arr el fz, p = some ⟨β, off, none⟩ ∧ w.heap[β]? = some (.cells arr el fz) ∧ CU w S arr e off rows) :
  ∃ news, (Builtin.firstCells e n (.slice p len cap)).run P w = .ok news w ∧ CU w S news e 0 (rows.take n) ∧ news.size = n * e := by
 rcases h with h | ⟨β, off, arr, el, fz, h1, h2, h3⟩
 ·subst h
  have : n = 0 := by simpa using hn
  subst this
  obtain ⟨news, k1, k2, k3⟩ := En (P := P) (w := w) (a := p) (len := len) (cap := cap) (e := e) (S := S)
  exact ⟨news, k1 w rfl, by simpa using k2, by simpa using k3⟩
 ·subst h1
  have hl : (rows.take n).length = n := by simp; omega
  obtain ⟨news, k1, k2, k3⟩ := Fv (P := P) (len := len) (cap := cap) h2 (h3.take (n := n))
  rw [hl] at k1 k3
  exact ⟨news, k1 w rfl, k2, k3⟩
theorem R2 {G : Gh} {w : World} {b e β cap q : Nat} {rows rows2 : List (List T)} {arr news : Array Value} {el : TypeId} (hlt : β < w.heap.size) (hnS : ¬ G.S β) (h0 : G.loc b = some β) (h1 : G.hd b = .slice (some ⟨β, 0, none⟩) rows.length cap) (h3 : rows.length ≤ cap) (h4 : arr.size = cap * e) (h5 : CU w G.S arr e 0 rows)
  (hn : CU w G.S news e 0 rows2) (hns : news.size = rows2.length * e) (hq : q + rows2.length ≤ rows.length) :
  DY P (Fr w β (.cells (Ez arr (q * e) news.toList) el (0, 0))) G b (.vec e (Nn rows q rows2)) := by
 have hle : q * e + rows2.length * e ≤ cap * e := by rw [← zA6]; exact uV e (by omega)
 have hS : ∀ γ, G.S γ → (Fr w β (.cells (Ez arr (q * e) news.toList) el (0, 0))).heap[γ]? = w.heap[γ]? := fun γ hγ => by
  rw [DA, if_neg (fun (h : γ = β ∧ β < w.heap.size) => hnS (h.1 ▸ hγ))]
 have hrl : ∀ (i : Nat) (row : List T), (Nn rows q rows2)[i]? = some row → row.length = e := by
  intro i row hi
  rw [Qe hq] at hi
  split at hi
  ·exact hn.2.1 _ row hi
  ·exact h5.2.1 _ row hi
 refine .inr ⟨β, cap, Ez arr (q * e) news.toList, el, h0, by rw [LI hq]; exact h1, by rw [DA, if_pos ⟨rfl, hlt⟩], by rw [LI hq]; exact h3, by rw [FW, h4], hrl, ?_⟩
 intro i row j t hi hj
 have hj' := AA hj
 have hre := hrl i row hi
 rw [Qe hq] at hi
 rw [EJ _ _ _ _ (by simp; omega)]
 simp only [zD0, hns]
 split at hi
 ·rename_i hin
  have hle2 : (i - q) * e + e ≤ rows2.length * e := by rw [← zA2]; exact uV e (by omega)
  have hsp : i * e = q * e + (i - q) * e := by rw [← zA6]; congr 1; omega
  rw [if_pos (by omega)]
  have := hn.2.2 _ row j t hi hj
  rw [uZ] at this
  have h6 : (news.toList[i * e + j - q * e]?).getD undef = Au news ((i - q) * e + j) := by
   rw [show i * e + j - q * e = (i - q) * e + j from by omega]
   unfold Au; simp
  rw [h6]
  exact this.mono hS fun _ h => h
 ·rename_i hin
  rw [if_neg]
  ·have := h5.2.2 _ row j t hi hj
   rw [uZ] at this
   exact this.mono hS fun _ h => h
  ·rintro ⟨k1, k2⟩
   by_cases hiq : i < q
   ·have : i * e + e ≤ q * e := by rw [← zA2]; exact uV e hiq
    omega
   ·have : q * e + rows2.length * e ≤ i * e := by rw [← zA6]; exact uV e (by omega)
    omega
theorem RS {x : Operand} {t el s e l h b lo0 len : Nat} {lo hi : Option Operand} {rl rh : List (Operand × D)} {rows : List (List T)} {d : D} (hat : At st.env ops i X.n (.slice t x lo hi none) s gs)
  (hx : opd st.env x = some d) (hD : Mg d b e rows lo0 len) (hb : st.bx b = some (.vec e rows)) (ht : sliceB P t el = true) (he : FZ P el e = true) (hlo : OZ lo 0 l rl) (hhi : OZ hi len h rh) (h1 : DL st.env rl) (h2 : DL st.env rh) (hlh : l ≤ h) (hhl : lo0 + h ≤ rows.length)
  (next : A1 P X ops dr Q r (i + 1) (BU.upd ⟨gs ++ ((x, d) :: (rl ++ rh)), [(b, .vec e rows)], some s, some (.e (.one (.view b e (lo0 + l) (h - l)))), [], []⟩ st) ((i, ⟨gs ++ ((x, d) :: (rl ++ rh)), [(b, .vec e rows)], some s, some (.e (.one (.view b e (lo0 + l) (h - l)))), [], []⟩) :: log)) : A1 P X ops dr Q (r + 1) i st log := by
 obtain ⟨o, ho, hop, hd, hn, hg, hgp⟩ := hat.out
 refine A1.step next ⟨Aj.2 ⟨hgp, hx, Aj.2 ⟨h1, h2⟩⟩, ⟨hb, trivial⟩, trivial⟩ (LR.value ho hg rfl hd.symm (CM hd hn) ?_)
 intro G st a w hs hpre
 obtain ⟨hx, h12⟩ := (Aj.1 hpre.r).2
 obtain ⟨h1, h2⟩ := Aj.1 h12
 have hb := hpre.b.1
 -- the header of the whole
 obtain ⟨a0, cap, k1, k2, k3⟩ := Pg (hs.blk b _ hb)
 have hv : ∃ p, a.eval x = .slice p len (cap - lo0) ∧ lo0 + len ≤ rows.length ∧ (lo0 < cap → p = a0.map fun q => q.add (lo0 * e)) := by
  have hR := hs.opd hx
  cases hD with
  | own =>
   obtain ⟨hR, _⟩ : D0 P w G (a.eval x) (.own b) := hR
   exact ⟨a0, hR.trans k1, by omega, fun _ => by cases a0 <;> simp [Qr]⟩
  | view _ _ _ _ _ h' =>
   obtain ⟨a1, n1, cap1, p, g1, g2, g3, g4⟩ : D0 P w G (a.eval x) (.view b e lo0 len) := hR
   rw [k1] at g1; cases g1
   exact ⟨p, g3, h', g4⟩
 obtain ⟨p, hv1, hv2, hv3⟩ := hv
 refine ⟨.slice (if cap - lo0 = l then p else p.map (·.add (l * e))) (h - l) (cap - lo0 - l), w, G, ?_, hs, ?_⟩
 ·simp only [execOp, hop]
  refine Ag (a := .slice (if cap - lo0 = l then p else p.map (·.add (l * e))) (h - l) (cap - lo0 - l)) (w1 := w) ?_ rfl
  rw [hv1]
  exact H8 (a := a) hs ht he hlo hhi h1 h2 hlh (by omega)
 ·rintro d' ⟨⟩
  refine ⟨⟨a0, rows.length, cap, _, k1, by omega, by rw [show cap - lo0 - l = cap - (lo0 + l) from by omega], fun hlt => ?_⟩, fun b' hb' => ?_⟩
  ·rw [if_neg (by omega), hv3 (by omega)]
   obtain ⟨β, arr, el', g1, _⟩ := k3 (by omega)
   subst g1
   simp only [zB3, Addr.add_mk, zA6, uZ]
  ·simp [D.names, E.names, C.names] at hb'
   subst hb'
   simp [By, hb]
theorem RK {t t2 el e : Nat} {w : World} {p p2 : Option Addr} {dl dc n2 c2 : Nat} {news : Array Value} {ty : TypeId} (ht : sliceB P t el = true) (he : FZ P el e = true) (hnew : (Builtin.firstCells e (zA4 n2 dl) (.slice p2 n2 c2)).run P w = .ok news w) {w' : World}
  (hst : ∀ q, p = some q → (storeCells q news.toList).run P w = .ok () w') (hno : p = none → w' = w) : (Builtin.copy_ #[t, t2] ty #[.slice p dl dc, .slice p2 n2 c2]).run P w = .ok (goInt (zA4 n2 dl)) w' := by
 unfold sliceB at ht
 split at ht
 ·rename_i e' hu
  have : e' = el := by simpa using ht
  subst this
  unfold Builtin.copy_
  refine Ag (AC hu w) ?_
  refine Ag (a := n2) (w1 := w) rfl ?_
  refine Ag (DG he w) ?_
  refine Ag hnew ?_
  cases p with
  | none => rw [hno rfl]; rfl
  | some q => exact Ag (hst q rfl) rfl
 ·cases ht
theorem Ur {x y : Operand} {t t2 el s e b lo len : Nat} {d d2 : D} {rb2 : List (Nat × Bi)} {rows rows2 rows' : List (List T)} (hat : At st.env ops i X.n (.call ⟨.builtin .copy, #[x, y], #[t, t2]⟩) s gs)
  (hx : opd st.env x = some d) (hD : Mg d b e rows lo len) (hb : st.bx b = some (.vec e rows)) (hy : opd st.env y = some d2) (hS : Ov d2 rb2 e rows2) (hb2 : zFS st.bx rb2) (ht : sliceB P t el = true) (he : FZ P el e = true) (hr : Nn rows lo (rows2.take (zA4 rows2.length len)) = rows')
  (next : A1 P X ops dr Q r (i + 1) (BU.upd ⟨gs ++ [(x, d), (y, d2)], (b, .vec e rows) :: rb2, some s, some (vD (goInt (zA4 rows2.length len))), [(b, .vec e rows')], []⟩ st) ((i, ⟨gs ++ [(x, d), (y, d2)], (b, .vec e rows) :: rb2, some s, some (vD (goInt (zA4 rows2.length len))), [(b, .vec e rows')], []⟩) :: log)) : A1 P X ops dr Q (r + 1) i st log := by
 obtain ⟨o, ho, hop, hd, hn, hg, hgp⟩ := hat.out
 refine A1.step next ⟨Aj.2 ⟨hgp, hx, hy, trivial⟩, ⟨hb, hb2⟩, trivial⟩ (LR.value ho hg rfl hd.symm (CM hd hn) ?_)
 intro G st a w hs hpre
 obtain ⟨hx, hy, _⟩ := (Aj.1 hpre.r).2
 obtain ⟨hb, hb2⟩ := hpre.b
 subst hr
 obtain ⟨p, cap', h1, h2, h3, h4⟩ := hs.dstV hx hD hb
 obtain ⟨p2, cap2, k1, k2⟩ := hs.srcW hy hS hb2
 have hmin : zA4 rows2.length len ≤ rows2.length := Nat.min_le_left _ _
 have hmin2 : zA4 rows2.length len ≤ len := Nat.min_le_right _ _
 obtain ⟨news, n1, n2, n3⟩ := NC (P := P) (len := rows2.length) (cap := cap2) hmin k2
 have hl2 : (rows2.take (zA4 rows2.length len)).length = zA4 rows2.length len := by rw [zC6]; exact Nat.min_eq_left hmin
 have hrun : ∀ w', (∀ q, p = some q → (storeCells q news.toList).run P w = .ok () w') → (p = none → w' = w) → (execOp a.eval o).run P w = .ok (.value (goInt (zA4 rows2.length len))) w' := fun w' g1 g2 => by
  simp only [execOp, hop]
  refine F7 fun cs => ?_
  simp only [zD7, vU, zF1, builtin, h1, k1]
  exact Ag (RK ht he n1 g1 g2) rfl
 have fin : ∀ d', some (vD (goInt (zA4 rows2.length len))) = some d' → ∀ w' (G' : Gh), FK P w' G' (goInt (zA4 rows2.length len)) d' ∧ ∀ c, c ∈ d'.names → (By st.bx [(b, .vec e (Nn rows lo (rows2.take (zA4 rows2.length len))))] c).isSome = true := fun d' hd' w' G' => by
  cases hd'; exact ⟨.val _ rfl, fun c hc => by cases hc⟩
 by_cases hlt : lo < rows.length
 ·obtain ⟨β, cap, arr, el', g1, g2, g3, g4, g5, g6, g7⟩ := h4 hlt
  subst g4
  have hat := hs.at_ok b _ β hb rfl (.inl g1)
  have hle : lo * e + zA4 rows2.length len * e ≤ arr.size := by rw [g6, ← zA6]; exact uV e (by omega)
  have hst := Fw (P := P) (β := β) (el := el') news.toList w (lo * e) 0 arr g5 (by simp [n3]; omega) (CU.ones n2 (by rw [n3, hl2]))
  rw [Nat.add_zero] at hst
  refine ⟨_, _, G, hrun _ (fun q hq => by cases hq; exact hst) (fun h => by cases h), ?_, fun d' hd' => fin d' hd' _ _⟩
  exact hs.setB (b := b) (k0 := .vec e rows) hb rfl rfl (.inl g1) (R2 hat.2.1 hat.2.2 g1 g2 g3 g6 g7 n2 (by rw [n3, hl2]) (by rw [hl2]; omega)) (fun c hc => by cases hc)
 ·have hz : zA4 rows2.length len = 0 := by omega
  have hn0 : news.toList = [] := zB1 (by simp [n3, hz])
  have hsp : Nn rows lo (rows2.take (zA4 rows2.length len)) = rows := by
   have : lo = rows.length := by omega
   rw [hz]; unfold Nn; simp [this]
  refine ⟨_, w, G, hrun w (fun q _ => by rw [hn0]; rfl) (fun _ => rfl), ?_, fun d' hd' => fin d' hd' _ _⟩
  have : (⟨st.env, By st.bx [(b, .vec e (Nn rows lo (rows2.take (zA4 rows2.length len))))]⟩ : St) = st := by
   refine St.ext (fun _ => rfl) fun c => ?_
   simp only [By]
   split
   ·rename_i e1; rw [e1, hsp, hb]
   ·rfl
  rw [this]; exact hs
end run
end Go.Lift
namespace Go.Lift
open Go.RowKit
variable {P : Program} {X : F6} {ops : Array Oper}
def Rd (a b : Int) : Int := if b < a then b else a
def SX (b : ByteArray) (i : Int) : Option Int := if 0 ≤ i then (b[i.toNat]?).map fun x => (x.toNat : Int) else none
theorem Qy {β : Type} {b : ByteArray} {i : Int} {f : Int → Option β} {r : β} (h : (SX b i).bind f = some r) : ∃ x : UInt8, 0 ≤ i ∧ b[i.toNat]? = some x ∧ f (x.toNat : Int) = some r := by
 obtain ⟨x, h1, h2⟩ := bind_some h
 unfold SX at h1
 split at h1
 ·rename_i h0
  cases hx : b[i.toNat]? with
  | none => rw [hx] at h1; cases h1
  | some y => rw [hx] at h1; cases h1; exact ⟨y, h0, rfl, h2⟩
 ·cases h1
section run
variable {dr : Bool} {Q : St → Prop} {r i : Nat} {st : St} {log : List (Nat × BU)} {o : Oper} {gs : List (Operand × D)}
theorem U5 {x y : Operand} {t t2 s : Nat} {k k2 : IntKind} {a0 b0 : Int} (hat : At st.env ops i X.n (.call ⟨.builtin .min, #[x, y], #[t, t2]⟩) s gs)
  (hx : opd st.env x = some (vD (.int k a0))) (hy : opd st.env y = some (vD (.int k2 b0)))
  (next : A1 P X ops dr Q r (i + 1) (BU.upd ⟨gs ++ [(x, vD (.int k a0)), (y, vD (.int k2 b0))], [], some s, some (vD (.int k (Rd a0 b0))), [], []⟩ st) ((i, ⟨gs ++ [(x, vD (.int k a0)), (y, vD (.int k2 b0))], [], some s, some (vD (.int k (Rd a0 b0))), [], []⟩) :: log)) : A1 P X ops dr Q (r + 1) i st log := by
 obtain ⟨o, ho, hop, hd, hn, hg, hgp⟩ := hat.out
 refine A1.step next ⟨Aj.2 ⟨hgp, hx, hy, trivial⟩, trivial, trivial⟩ (LR.value ho hg rfl hd.symm (CM hd hn) ?_)
 intro G st a w hs hpre
 obtain ⟨hx, hy, _⟩ := (Aj.1 hpre.r).2
 have h1 : a.eval x = .int k a0 := CH (hs.opd hx : Ci w G.S (a.eval x) (.val _))
 have h2 : a.eval y = .int k2 b0 := CH (hs.opd hy : Ci w G.S (a.eval y) (.val _))
 refine ⟨.int k (Rd a0 b0), w, G, ?_, hs, ?_⟩
 ·simp only [execOp, hop]
  refine F7 fun cs => ?_
  simp only [zD7, vU, zF1, builtin, h1, h2]
  rfl
 ·rintro d ⟨⟩
  exact ⟨.val _ rfl, fun b hb => by cases hb⟩
theorem PC {x : Operand} {s b k : Nat} (hat : At st.env ops i X.n (.nilCheck x) s gs) (hx : opd st.env x = some (.e (.one (.ptr b k))))
  (next : A1 P X ops dr Q r (i + 1) (BU.upd ⟨gs ++ [(x, .e (.one (.ptr b k)))], [], some s, some (.e (.one (.ptr b k))), [], []⟩ st) ((i, ⟨gs ++ [(x, .e (.one (.ptr b k)))], [], some s, some (.e (.one (.ptr b k))), [], []⟩) :: log)) : A1 P X ops dr Q (r + 1) i st log := by
 obtain ⟨o, ho, hop, hd, hn, hg, hgp⟩ := hat.out
 refine A1.step next ⟨Aj.2 ⟨hgp, hx, trivial⟩, trivial, trivial⟩ (LR.value ho hg rfl hd.symm (CM hd hn) ?_)
 intro G st a w hs hpre
 obtain ⟨hx, _⟩ := (Aj.1 hpre.r).2
 obtain ⟨β, hβ, hv⟩ : D0 P w G (a.eval x) (.ptr b k) := hs.opd hx
 refine ⟨.pointer (some ⟨β, k, none⟩), w, G, ?_, hs, ?_⟩
 ·simp only [execOp, hop, hv]; rfl
 ·rintro d ⟨⟩
  exact ⟨⟨β, hβ, rfl⟩, fun b' hb' => hs.opd_live hx b' hb'⟩
def KB (P : Program) (t : TypeId) : Bool := match P.underlying t with | some .string => true | _ => false
theorem Q5 {x y : Operand} {t s : Nat} {b : ByteArray} {k : IntKind} {n : Int} {c : UInt8} (hat : At st.env ops i X.n (.index t x y) s gs)
  (hx : opd st.env x = some (vD (.string b))) (hy : opd st.env y = some (vD (.int k n))) (ht : KB P t = true) (h0 : 0 ≤ n) (hc : b[n.toNat]? = some c)
  (next : A1 P X ops dr Q r (i + 1) (BU.upd ⟨gs ++ [(x, vD (.string b)), (y, vD (.int k n))], [], some s, some (vD (.int .u8 (c.toNat : Int))), [], []⟩ st) ((i, ⟨gs ++ [(x, vD (.string b)), (y, vD (.int k n))], [], some s, some (vD (.int .u8 (c.toNat : Int))), [], []⟩) :: log)) : A1 P X ops dr Q (r + 1) i st log := by
 obtain ⟨o, ho, hop, hd, hn, hg, hgp⟩ := hat.out
 refine A1.step next ⟨Aj.2 ⟨hgp, hx, hy, trivial⟩, trivial, trivial⟩ (LR.value ho hg rfl hd.symm (CM hd hn) ?_)
 intro G st a w hs hpre
 obtain ⟨hx, hy, _⟩ := (Aj.1 hpre.r).2
 have h1 : a.eval x = .string b := CH (hs.opd hx : Ci w G.S (a.eval x) (.val _))
 have h2 : a.eval y = .int k n := CH (hs.opd hy : Ci w G.S (a.eval y) (.val _))
 refine ⟨.int .u8 (c.toNat : Int), w, G, ?_, hs, ?_⟩
 ·simp only [execOp, hop, h1, h2]
  refine Ag (a := .int .u8 (c.toNat : Int)) (w1 := w) ?_ rfl
  unfold KB at ht
  split at ht
  ·rename_i hu
   unfold Instr.index
   refine Ag (a := (k, n)) (w1 := w) rfl ?_
   refine Ag (AC hu w) ?_
   simp only [h0, if_true, hc]
   rfl
  ·cases ht
 ·rintro d ⟨⟩
  exact ⟨.val _ rfl, fun b hb => by cases hb⟩
end run
section maps
variable {K V : Type}
def Fh [BEq K] (k : K) : List (K × V) → Option V
 | [] => none
 | p :: r => if k == p.1 then some p.2 else Fh k r
def Il [BEq K] (k : K) (v : V) : List (K × V) → List (K × V)
 | [] => [(k, v)]
 | p :: r => if k == p.1 then (k, v) :: r else p :: Il k v r
def DK (kv : K → Value) (vt : V → T) (m : List (K × V)) : List (Value × T) := m.map fun p => (kv p.1, vt p.2)
end maps
structure OF {K : Type} [BEq K] (P : Program) (t : TypeId) (kv : K → Value) : Prop where
 ty : ∃ kt el kd, P.underlying t = some (.map kt el) ∧ P.underlying kt = some kd ∧ (∀ a b : K, Instr.sameNow kd (kv a) (kv b) = some (a == b)) ∧ (∀ (e : Bool) (n : Nat) (v : K) (w : World), (Instr.checkKey e (n + 1) kt (kv v)).run P w = .ok () w)
 same : ∀ a b : K, (a == b) = true → Instr.sameBits 10000 (kv b) (kv a) = true
theorem Ij {K V : Type} [BEq K] {kd : TypeDesc} {kv : K → Value} (h : ∀ a b : K, Instr.sameNow kd (kv a) (kv b) = some (a == b)) (k : K) : ∀ (m : List (K × V)) (es : List MapEntry) (i : Nat), es.length = m.length → (∀ (j : Nat) (p : K × V), m[j]? = some p → ∃ e : MapEntry, es[j]? = some e ∧ e.key = kv p.1) →
  (Fh k m = none ∧ Instr.findNow kd (kv k) es i = some none) ∨ ∃ j p e, m[j]? = some p ∧ es[j]? = some e ∧ (k == p.1) = true ∧ Fh k m = some p.2 ∧ Instr.findNow kd (kv k) es i = some (some (i + j, e.val)) ∧ (∀ v, Il k v m = m.set j (k, v))
 | [], [], i, _, _ => .inl ⟨rfl, rfl⟩
 | p :: m, e :: es, i, hl, hp => by
  obtain ⟨e0, h0, h1⟩ := hp 0 p rfl
  simp at h0; subst h0
  have h2 := h k p.1
  by_cases hk : (k == p.1) = true
  ·refine .inr ⟨0, p, e, rfl, rfl, hk, ?_, ?_, fun v => ?_⟩
   ·simp only [Fh, hk, if_true]
   ·simp only [Instr.findNow, h1, h2, hk]; rfl
   ·simp only [Il, hk, if_true]; rfl
  ·have hk' : (k == p.1) = false := by simpa using hk
   rcases Ij h k m es (i + 1) (by simpa using hl) (fun j q hq => hp (j + 1) q (by simpa using hq)) with ⟨g1, g2⟩ | ⟨j, q, e', g1, g2, g3, g4, g5, g6⟩
   ·refine .inl ⟨?_, ?_⟩
    ·simp only [Fh, hk']; exact g1
    ·simp only [Instr.findNow, h1, h2, hk']; exact g2
   ·refine .inr ⟨j + 1, q, e', by simpa using g1, by simpa using g2, g3, ?_, ?_, fun v => ?_⟩
    ·simp only [Fh, hk']; exact g4
    ·simp only [Instr.findNow, h1, h2, hk']; rw [g5]; simp [zC1, Nat.add_comm 1]
    ·simp only [Il, hk']; rw [g6 v]; rfl
theorem Kj {K V : Type} [BEq K] (k : K) (v : V) : ∀ {m : List (K × V)}, Fh k m = none → Il k v m = m ++ [(k, v)]
 | [], _ => rfl
 | p :: m, h => by
  simp only [Fh] at h
  split at h
  ·cases h
  ·rename_i hk
   simp only [Il]; rw [if_neg hk, Kj k v h]; rfl
section run
variable {dr : Bool} {Q : St → Prop} {r i : Nat} {st : St} {log : List (Nat × BU)} {o : Oper} {gs : List (Operand × D)}
theorem Qq {t s : Nat} (hat : At st.env ops i X.n (.makeMap t none) s gs) (hnew : st.bx s = none)
  (next : A1 P X ops dr Q r (i + 1) (BU.upd ⟨gs, [], some s, some (.e (.one (.mref s))), [(s, .mp [])], [s]⟩ st) ((i, ⟨gs, [], some s, some (.e (.one (.mref s))), [(s, .mp [])], [s]⟩) :: log)) : A1 P X ops dr Q (r + 1) i st log := by
 obtain ⟨o, ho, hop, hd, hn, hg, hgp⟩ := hat.out
 refine A1.step next ⟨hgp, trivial, hnew, trivial⟩ (LR.value (rs := []) ho hg (by simp) hd.symm (CM hd hn) ?_)
 intro G st a w hs hpre
 have hnew := hpre.n.1
 have key := hs.newB (.map #[] 0) s (.mp []) undef (hs.nl hn) hnew
  ⟨w.heap.size, #[], 0, by simp [Gh.set], by rw [Dq, if_pos rfl], rfl, fun i x h => by simp at h⟩ (fun c hc => by cases hc)
 refine ⟨.map (some w.heap.size), _, _, ?_, key, ?_⟩
 ·simp only [execOp, hop]
  exact Ag (a := .map (some w.heap.size)) (w1 := w.alloc (.map #[] 0)) rfl rfl
 ·rintro d ⟨⟩
  refine ⟨⟨w.heap.size, by simp [Gh.set], rfl⟩, fun b hb => ?_⟩
  simp [D.names, E.names, C.names] at hb
  subst hb; simp [By]
theorem Cp.mpAt {G : Gh} {a : Act} {w : World} (hs : Cp P X G st a w) {x : Operand} {b : Nat} {es : List (Value × T)} (hx : Lift.opd st.env x = some (.e (.one (.mref b)))) (hb : st.bx b = some (.mp es)) :
  ∃ β arr clock, a.eval x = .map (some β) ∧ G.loc b = some β ∧ w.heap[β]? = some (.map arr clock) ∧ arr.size = es.length ∧ ∀ (i : Nat) (y : Value × T), es[i]? = some y → ∃ m : MapEntry, arr[i]? = some m ∧ m.key = y.1 ∧ Ci w G.S m.val y.2 := by
 obtain ⟨β, hβ, hv⟩ : D0 P w G (a.eval x) (.mref b) := hs.opd hx
 obtain ⟨β', arr, clock, h1, h2, h3, h4⟩ := hs.blk b _ hb
 rw [hβ] at h1; cases h1
 exact ⟨β, arr, clock, hv, hβ, h2, h3, h4⟩
theorem HI {β : Nat} {arr : Array MapEntry} {clock : Nat} {w : World} (h : w.heap[β]? = some (.map arr clock)) : (getObj β).run P w = .ok (.map arr clock) w := by
 simp [getObj, Sem.run, h]
theorem LY {β : Nat} {arr : Array MapEntry} {clock : Nat} {o : Obj} {w : World} (h : w.heap[β]? = some (.map arr clock)) : (setObj β o).run P w = .ok () (Fr w β o) := by
 simp [setObj, Sem.run, h, Fr]
theorem Ha {K _V : Type} [BEq K] {kt : TypeId} {kd : TypeDesc} {kv : K → Value} {k : K} {es : List MapEntry} {r : Option (Nat × Value)} {w : World} (hu : P.underlying kt = some kd) (h : Instr.findNow kd (kv k) es 0 = some r) : (Instr.findKey kt (kv k) es).run P w = .ok r w := by
 unfold Instr.findKey
 refine Ag (AC hu w) ?_
 rw [h]; rfl
inductive PV (w : World) : Value → Array MapEntry → Prop where
 | nil : PV w (.map none) #[]
 | here (β clock : Nat) (arr : Array MapEntry) (h : w.heap[β]? = some (.map arr clock)) : PV w (.map (some β)) arr
theorem PH {K V : Type} [BEq K] {t el : Nat} {c : Bool} {z x : Value} {kv : K → Value} {vt : V → T} {m : List (K × V)} {k : K} {dv v0 : V} {w : World} {S : Nat → Prop} {arr : Array MapEntry} (h3 : PV w x arr) (h4 : arr.size = (DK kv vt m).length)
  (h5 : ∀ (i : Nat) (y : Value × T), (DK kv vt m)[i]? = some y → ∃ e : MapEntry, arr[i]? = some e ∧ e.key = y.1 ∧ Ci w S e.val y.2)
  (hk : OF P t kv) (hel : (match P.underlying t with | some (.map _ e) => e == el | _ => false) = true) (hz : Dm P el = some z) (hzv : vt dv = .val z) (hz1 : FM z = true) (hv0 : (Fh k m).getD dv = v0) :
  ∃ v, (Instr.lookup t x (kv k) c).run P w = .ok (if c then .tuple #[v, .bool (Fh k m).isSome] else v) w ∧ Ci w S v (vt v0) := by
 obtain ⟨kt, el', kd, u1, u2, u3, u4⟩ := hk.ty
 rw [u1] at hel
 have hel' : el' = el := by simpa using hel
 subst hel'
 have hes : ∀ (j : Nat) (p : K × V), m[j]? = some p → ∃ e : MapEntry, arr.toList[j]? = some e ∧ e.key = kv p.1 ∧ Ci w S e.val (vt p.2) := fun j p hp => by
  obtain ⟨e, e1, e2, e3⟩ := h5 j (kv p.1, vt p.2) (by unfold DK; rw [uY, hp]; rfl)
  exact ⟨e, by simpa using e1, e2, e3⟩
 rcases Ij (V := V) u3 k m arr.toList 0 (by simp [h4, DK]) (fun j p hp => by obtain ⟨e, e1, e2, _⟩ := hes j p hp; exact ⟨e, e1, e2⟩) with ⟨g1, g2⟩ | ⟨j, q, e, g1, g2, g3, g4, g5, _⟩
 ·refine ⟨z, ?_, ?_⟩
  ·rw [g1]
   unfold Instr.lookup
   refine Ag (AC u1 w) ?_
   cases h3
   case' here h3 => refine Ag (HI h3) ?_
   all_goals refine Ag (a := _) (w1 := w) rfl ?_
   all_goals refine Ag (u4 _ _ _ _) ?_
   all_goals refine Ag (Ha (_V := V) u2 g2) ?_
   all_goals refine Ag (E9 hz w) ?_
   all_goals exact Ag (a := (z, false)) (w1 := w) rfl rfl
  ·rw [← hv0, g1, Option.getD_none, hzv]; exact .val _ hz1
 ·refine ⟨e.val, ?_, ?_⟩
  ·rw [g4]
   unfold Instr.lookup
   refine Ag (AC u1 w) ?_
   cases h3 with
   | nil => cases g2
   | here β clock _ h3 =>
    refine Ag (HI h3) ?_
    refine Ag (a := arr) (w1 := w) rfl ?_
    refine Ag (u4 _ _ _ _) ?_
    refine Ag (Ha (_V := V) u2 g5) ?_
    exact Ag (a := (e.val, true)) (w1 := w) rfl rfl
  ·obtain ⟨e', e1, _, e3⟩ := hes j q g1
   rw [g2] at e1; cases e1
   rw [← hv0, g4]; exact e3
inductive Wj : D → List (Value × T) → List (Nat × Bi) → Prop where
 | ref (b : Nat) (es : List (Value × T)) : Wj (.e (.one (.mref b))) es [(b, .mp es)]
 | tree (es : List (Value × T)) : Wj (one (.mp es)) es []
theorem Cp.mpAtD {G : Gh} {a : Act} {w : World} (hs : Cp P X G st a w) {x : Operand} {d : D} {es : List (Value × T)} {bs : List (Nat × Bi)} (hm : Wj d es bs) (hx : Lift.opd st.env x = some d) (hb : zFS st.bx bs) :
  ∃ arr, PV w (a.eval x) arr ∧ arr.size = es.length ∧ ∀ (i : Nat) (y : Value × T), es[i]? = some y → ∃ m : MapEntry, arr[i]? = some m ∧ m.key = y.1 ∧ Ci w G.S m.val y.2 := by
 cases hm with
 | ref b =>
  obtain ⟨β, arr, clock, h1, h2, h3, h4, h5⟩ := hs.mpAt hx hb.1
  exact ⟨arr, by rw [h1]; exact .here β clock arr h3, h4, h5⟩
 | tree =>
  have h : Ci w G.S (a.eval x) (.mp es) := hs.opd hx
  generalize a.eval x = v at h
  cases h with
  | mp β clock arr _ h1 h2 h3 h4 h5 =>
   refine ⟨arr, .here β clock arr h2, h3, fun i y hy => ?_⟩
   have hlt : i < arr.size := by rw [h3]; exact AA hy
   exact ⟨arr[i], by simp [hlt], h4 i y _ hy (by simp [hlt]), h5 i y _ hy (by simp [hlt])⟩
  | mp0 => exact ⟨#[], .nil, rfl, fun i y hy => by simp at hy⟩
theorem QK {K V : Type} [BEq K] {t s el : Nat} {x y : Operand} {c : Bool} {z : Value} {kv : K → Value} {vt : V → T} {m : List (K × V)} {k : K} {dv v0 : V} {dx : D} {bs : List (Nat × Bi)} (hmd : Wj dx (DK kv vt m) bs) (hat : At st.env ops i X.n (.lookup t x y c) s gs)
  (hx : opd st.env x = some dx) (hy : opd st.env y = some (vD (kv k))) (hb : zFS st.bx bs) (hk : OF P t kv) (hel : (match P.underlying t with | some (.map _ e) => e == el | _ => false) = true) (hz : Dm P el = some z) (hzv : vt dv = .val z) (hz1 : FM z = true) (hv0 : (Fh k m).getD dv = v0)
  (next : A1 P X ops dr Q r (i + 1) (BU.upd ⟨gs ++ [(x, dx), (y, vD (kv k))], bs, some s, some (if c then .tup [.one (.pure (vt v0)), .one (.pure (.val (.bool (Fh k m).isSome)))] else one (vt v0)), [], []⟩ st) ((i, ⟨gs ++ [(x, dx), (y, vD (kv k))], bs, some s, some (if c then .tup [.one (.pure (vt v0)), .one (.pure (.val (.bool (Fh k m).isSome)))] else one (vt v0)), [], []⟩) :: log)) : A1 P X ops dr Q (r + 1) i st log := by
 obtain ⟨o, ho, hop, hd, hn, hg, hgp⟩ := hat.out
 refine A1.step next ⟨Aj.2 ⟨hgp, hx, hy, trivial⟩, hb, trivial⟩ (LR.value ho hg rfl hd.symm (CM hd hn) ?_)
 intro G st a w hs hpre
 obtain ⟨hx, hy, _⟩ := (Aj.1 hpre.r).2
 obtain ⟨arr, h3, h4, h5⟩ := hs.mpAtD hmd hx hpre.b
 have hY : a.eval y = kv k := CH (hs.opd hy : Ci w G.S (a.eval y) (.val _))
 obtain ⟨v, hv1, hv2⟩ := PH (c := c) h3 h4 h5 hk hel hz hzv hz1 hv0
 refine ⟨(if c then .tuple #[v, .bool (Fh k m).isSome] else v), w, G, ?_, hs, ?_⟩
 ·simp only [execOp, hop, hY]
  exact Ag hv1 rfl
 ·rintro d hd'
  cases c with
  | false => cases hd'; exact ⟨hv2, fun b hb => by cases hb⟩
  | true =>
   cases hd'
   refine ⟨⟨_, rfl, rfl, fun j x hj => ?_⟩, fun b hb => by simp [D.names, Hk, E.names, C.names] at hb⟩
   match j, hj with
   | 0, hj => cases hj; exact hv2
   | 1, hj => cases hj; exact .val _ rfl
theorem QT {K V : Type} [BEq K] {t s b el : Nat} {x y : Operand} {c : Bool} {z : Value} {kv : K → Value} {vt : V → T} {m : List (K × V)} {k : K} {dv v0 : V} (hat : At st.env ops i X.n (.lookup t x y c) s gs)
  (hx : opd st.env x = some (.e (.one (.mref b)))) (hy : opd st.env y = some (vD (kv k))) (hb : st.bx b = some (.mp (DK kv vt m))) (hk : OF P t kv) (hel : (match P.underlying t with | some (.map _ e) => e == el | _ => false) = true) (hz : Dm P el = some z) (hzv : vt dv = .val z) (hz1 : FM z = true) (hv0 : (Fh k m).getD dv = v0)
  (next : A1 P X ops dr Q r (i + 1) (BU.upd ⟨gs ++ [(x, .e (.one (.mref b))), (y, vD (kv k))], [(b, .mp (DK kv vt m))], some s, some (if c then .tup [.one (.pure (vt v0)), .one (.pure (.val (.bool (Fh k m).isSome)))] else one (vt v0)), [], []⟩ st) ((i, ⟨gs ++ [(x, .e (.one (.mref b))), (y, vD (kv k))], [(b, .mp (DK kv vt m))], some s, some (if c then .tup [.one (.pure (vt v0)), .one (.pure (.val (.bool (Fh k m).isSome)))] else one (vt v0)), [], []⟩) :: log)) : A1 P X ops dr Q (r + 1) i st log :=
 QK (.ref b _) hat hx hy ⟨hb, trivial⟩ hk hel hz hzv hz1 hv0 next
theorem QU {K V : Type} [BEq K] {t b : Nat} {x y u : Operand} {kv : K → Value} {vt : V → T} {m m' : List (K × V)} {k : K} {v : V} {op : Op} (hat : Qk ops i = some op) (hop' : op = .mapUpdate t x y u ∨ op = .insert t x y u)
  (hx : opd st.env x = some (.e (.one (.mref b)))) (hy : opd st.env y = some (vD (kv k))) (hu : opd st.env u = some (one (vt v))) (hb : st.bx b = some (.mp (DK kv vt m))) (hk : OF P t kv) (hm : Il k v m = m')
  (next : A1 P X ops dr Q r (i + 1) (BU.upd ⟨[(x, .e (.one (.mref b))), (y, vD (kv k)), (u, one (vt v))], [(b, .mp (DK kv vt m))], none, none, [(b, .mp (DK kv vt m'))], []⟩ st) ((i, ⟨[(x, .e (.one (.mref b))), (y, vD (kv k)), (u, one (vt v))], [(b, .mp (DK kv vt m))], none, none, [(b, .mp (DK kv vt m'))], []⟩) :: log)) : A1 P X ops dr Q (r + 1) i st log := by
 obtain ⟨o, ho, hop, hd, hgn⟩ := NI hat
 have hg : Sf ops o [] := .none hgn
 refine A1.step next ⟨⟨hx, hy, hu, trivial⟩, ⟨hb, trivial⟩, trivial⟩ (LR.skip (rs := [(x, .e (.one (.mref b))), (y, vD (kv k)), (u, one (vt v))]) ho hg rfl hd rfl ?_)
 intro G st a w hs hpre
 obtain ⟨hx, hy, hu, _⟩ := hpre.r
 have hb := hpre.b.1
 subst hm
 obtain ⟨β, arr, clock, h1, h2, h3, h4, h5⟩ := hs.mpAt hx hb
 have hY : a.eval y = kv k := CH (hs.opd hy : Ci w G.S (a.eval y) (.val _))
 have hU : Ci w G.S (a.eval u) (vt v) := hs.opd hu
 obtain ⟨kt, el', kd, u1, u2, u3, u4⟩ := hk.ty
 have hes : ∀ (j : Nat) (p : K × V), m[j]? = some p → ∃ e : MapEntry, arr.toList[j]? = some e ∧ e.key = kv p.1 ∧ Ci w G.S e.val (vt p.2) := fun j p hp => by
  obtain ⟨e, e1, e2, e3⟩ := h5 j (kv p.1, vt p.2) (by unfold DK; rw [uY, hp]; rfl)
  exact ⟨e, by simpa using e1, e2, e3⟩
 have hat := hs.at_ok b _ β hb rfl (.inl h2)
 have hml : arr.size = m.length := by rw [h4]; simp [DK]
 have fin : ∀ arr' clock', arr'.size = (Il k v m).length → (∀ (j : Nat) (p : K × V), (Il k v m)[j]? = some p → ∃ e : MapEntry, arr'[j]? = some e ∧ e.key = kv p.1 ∧ Ci w G.S e.val (vt p.2)) →
   Cp P X G ⟨st.env, By st.bx [(b, .mp (DK kv vt (Il k v m)))]⟩ a (Fr w β (.map arr' clock')) := by
  intro arr' clock' k1 k2
  have hS : ∀ γ, G.S γ → (Fr w β (.map arr' clock')).heap[γ]? = w.heap[γ]? := fun γ hγ => by
   rw [DA, if_neg (fun (h : γ = β ∧ β < w.heap.size) => hat.2.2 (h.1 ▸ hγ))]
  refine hs.setB (b := b) (k0 := .mp (DK kv vt m)) hb rfl rfl (.inl h2) ⟨β, arr', clock', h2, by rw [DA, if_pos ⟨rfl, hat.2.1⟩], by rw [k1]; simp [DK], fun j y hy => ?_⟩ (fun c hc => by cases hc)
  unfold DK at hy
  rw [uY] at hy
  cases hp : (Il k v m)[j]? with
  | none => rw [hp] at hy; cases hy
  | some p =>
   rw [hp] at hy; cases hy
   obtain ⟨e, e1, e2, e3⟩ := k2 j p hp
   exact ⟨e, e1, e2, e3.mono hS fun _ h => h⟩
 have hrun : ∀ w', (Instr.mapUpdate t (.map (some β)) (kv k) (a.eval u)).run P w = .ok () w' → (execOp a.eval o).run P w = .ok .skip w' := fun w' h => by
  rcases hop' with e | e
  ·simp only [execOp, hop, e, h1, hY]; exact Ag h rfl
  ·simp only [execOp, hop, e, h1, hY]; exact Ag h rfl
 rcases Ij (V := V) u3 k m arr.toList 0 (by simp [hml]) (fun j p hp => by obtain ⟨e, e1, e2, _⟩ := hes j p hp; exact ⟨e, e1, e2⟩) with ⟨g1, g2⟩ | ⟨j, q, e, g1, g2, g3, g4, g5, g6⟩
 ·refine ⟨_, G, hrun _ ?_, fin (arr.push { key := kv k, val := a.eval u, born := clock }) (clock + 1) ?_ ?_⟩
  ·unfold Instr.mapUpdate
   refine Ag (AC u1 w) ?_
   refine Ag (HI h3) ?_
   refine Ag (u4 _ _ _ _) ?_
   refine Ag (Ha (_V := V) u2 g2) ?_
   exact LY h3
  ·rw [Kj k v g1]; simp [hml]
  ·intro j p hp
   rw [Kj k v g1] at hp
   by_cases hj : j < m.length
   ·rw [zA1 hj] at hp
    obtain ⟨e, e1, e2, e3⟩ := hes j p hp
    refine ⟨e, ?_, e2, e3⟩
    rw [Array.getElem?_push, if_neg (by omega)]
    simpa using e1
   ·rw [vY (by omega)] at hp
    have hj0 : j - m.length = 0 := by have := AA hp; simp at this; omega
    rw [hj0] at hp; cases hp
    exact ⟨{ key := kv k, val := a.eval u, born := clock }, by rw [Array.getElem?_push, if_pos (by omega)], rfl, hU⟩
 ·have hjm := AA g1
  have hje : arr[j]? = some e := by simpa using g2
  have hek : e.key = kv q.1 := by obtain ⟨e', e1, e2, _⟩ := hes j q g1; rw [g2] at e1; cases e1; exact e2
  refine ⟨_, G, hrun _ ?_, fin (arr.modify j fun e => { e with key := kv k, val := a.eval u }) clock ?_ ?_⟩
  ·unfold Instr.mapUpdate
   refine Ag (AC u1 w) ?_
   refine Ag (HI h3) ?_
   refine Ag (u4 _ _ _ _) ?_
   refine Ag (Ha (_V := V) u2 g5) ?_
   simp only [uZ]
   refine Ag (a := kv k) (w1 := w) ?_ (LY h3)
   rw [hje]
   simp only [zB3, vV]
   unfold Instr.keyThatStays
   rw [hek, hk.same k q.1 g3]; rfl
  ·rw [g6 v]; simp [hml]
  ·intro j' p hp
   rw [g6 v] at hp
   rw [Array.getElem?_modify]
   rcases KW hp with ⟨rfl, rfl⟩ | ⟨hne, hp⟩
   ·rw [if_pos rfl, hje]
    exact ⟨_, rfl, rfl, hU⟩
   ·rw [if_neg (fun h => hne h.symm)]
    obtain ⟨e', e1, e2, e3⟩ := hes j' p hp
    exact ⟨e', by simpa using e1, e2, e3⟩
end run
end Go.Lift
namespace Go.Lift
open Go.RowKit
variable {P : Program} {X : F6} {ops : Array Oper}
section run
variable {dr : Bool} {Q : St → Prop} {r i : Nat} {st : St} {log : List (Nat × BU)} {o : Oper} {gs : List (Operand × D)}
def Xa : Ow → Bool
 | .s => true
 | _ => false
end run
def RM (e : Nat) (cols : List Ow) (rows : List (List T)) : Bi := if cols.all Xa then .vec e rows else .dvec e cols rows
section run
variable {dr : Bool} {Q : St → Prop} {r i : Nat} {st : St} {log : List (Nat × BU)} {o : Oper} {gs : List (Operand × D)}
end run
end Go.Lift
namespace Go.Lift
open Go.RowKit
variable {P : Program} {X : F6} {ops : Array Oper}
section run
variable {dr : Bool} {Q : St → Prop} {r i : Nat} {st : St} {log : List (Nat × BU)} {o : Oper} {gs : List (Operand × D)}
structure Tz (w : World) (S : Nat → Prop) (e : Nat) (cols : List Ow) (rows : List (List T)) (Rf : Nat → Nat → Nat → Prop) (f : Nat → Value) : Prop where
 len : ∀ (i : Nat) (row : List T), rows[i]? = some row → row.length = e
 cell : ∀ (i : Nat) (row : List T) (j : Nat) (t : T), rows[i]? = some row → row[j]? = some t → Px w S (cols.getD j .s) (Rf i j) (f (i * e + j)) t
 dis : ∀ i j i' j' γ, Rf i j γ → Rf i' j' γ → i = i' ∧ j = j'
theorem Tz.ones {w : World} {S : Nat → Prop} {e : Nat} {cols : List Ow} {rows : List (List T)} {Rf : Nat → Nat → Nat → Prop} {arr : Array Value} (h : Tz w S e cols rows Rf (Au arr)) (hs : arr.size = rows.length * e) : ∀ u, u ∈ arr.toList → FM u = true := by
 intro u hu
 obtain ⟨k, hk⟩ := vI.1 hu
 have hk' : arr[k]? = some u := by simpa using hk
 have hlt : k < arr.size := by
  rcases vW k arr.size with h' | h'
  ·exact h'
  ·rw [vZ h'] at hk'; cases hk'
 rcases Nat.eq_zero_or_pos e with e0 | e0
 ·rw [e0, Nat.mul_zero] at hs; omega
 have h1 : k / e < rows.length := (Nat.div_lt_iff_lt_mul e0).2 (by omega)
 have h2 : k % e < e := Nat.mod_lt _ e0
 have hrow : rows[k / e]? = some rows[k / e] := by simp [h1]
 have hlen := h.len _ _ hrow
 have hcell : (rows[k / e])[k % e]? = some ((rows[k / e])[k % e]'(by omega)) := by simp [show k % e < rows[k / e].length from by omega]
 have := (h.cell _ _ _ _ hrow hcell).one
 rw [show k / e * e + k % e = k from by rw [Nat.mul_comm]; exact Nat.div_add_mod k e] at this
 simpa [Au, hk'] using this
end run
end Go.Lift
namespace Go.Lift
open Go.RowKit
variable {P : Program} {X : F6} {ops : Array Oper}
theorem Le {α : Type} (f : α → List T) (b e : Nat) (xs : List α) : Mg (.e (.one (.own b))) b e (xs.map f) 0 xs.length := by
 have := Mg.own b e (xs.map f)
 rwa [vO] at this
theorem Qz {α : Type} (f : α → List T) (b e lo len : Nat) (xs : List α) (h : lo + len ≤ xs.length) : Mg (.e (.one (.view b e lo len))) b e (xs.map f) lo len := .view b e _ lo len (by simpa using h)
theorem QH {α : Type} (f : α → List T) (b e lo len : Nat) (xs : List α) (h : lo + len ≤ xs.length) : Ov (.e (.one (.view b e lo len))) [(b, .vec e (xs.map f))] e (((xs.drop lo).take len).map f) := by
 have := Ov.view b e (xs.map f) lo len (by simpa using h)
 rwa [← List.map_drop, ← List.map_take] at this
theorem Tn {α : Type} (f : α → List T) (e : Nat) (xs : List α) (h : ∀ x, (f x).length = e) : Ov (one (.sl (xs.map f))) [] e (xs.map f) := .of (.sl _ _ (HA h xs))
section run
variable {dr : Bool} {Q : St → Prop} {r i : Nat} {st : St} {log : List (Nat × BU)} {o : Oper} {gs : List (Operand × D)}
theorem Oo {α : Type} (f : α → List T) (xs : List α) {x : Operand} {t el s e l h b lo0 len lo1 len1 : Nat} {lo hi : Option Operand} {rl rh : List (Operand × D)} {d : D} (hat : At st.env ops i X.n (.slice t x lo hi none) s gs)
  (hx : opd st.env x = some d) (hD : Mg d b e (xs.map f) lo0 len) (hb : st.bx b = some (.vec e (xs.map f))) (ht : sliceB P t el = true) (he : FZ P el e = true) (hlo : OZ lo 0 l rl) (hhi : OZ hi len h rh) (h1 : DL st.env rl) (h2 : DL st.env rh) (hlh : l ≤ h) (hhl : lo0 + h ≤ xs.length) (e1 : lo0 + l = lo1) (e2 : h - l = len1)
  (next : A1 P X ops dr Q r (i + 1) (BU.upd ⟨gs ++ ((x, d) :: (rl ++ rh)), [(b, .vec e (xs.map f))], some s, some (.e (.one (.view b e lo1 len1))), [], []⟩ st) ((i, ⟨gs ++ ((x, d) :: (rl ++ rh)), [(b, .vec e (xs.map f))], some s, some (.e (.one (.view b e lo1 len1))), [], []⟩) :: log)) : A1 P X ops dr Q (r + 1) i st log := by
 subst e1; subst e2
 exact RS hat hx hD hb ht he hlo hhi h1 h2 hlh (by simpa using hhl) next
theorem PW {α : Type} (f : α → List T) (xs ys : List α) {x y : Operand} {t t2 el s e b lo len : Nat} {d d2 : D} {rb2 : List (Nat × Bi)} (hat : At st.env ops i X.n (.call ⟨.builtin .copy, #[x, y], #[t, t2]⟩) s gs)
  (hx : opd st.env x = some d) (hD : Mg d b e (xs.map f) lo len) (hb : st.bx b = some (.vec e (xs.map f))) (hy : opd st.env y = some d2) (hS : Ov d2 rb2 e (ys.map f)) (hb2 : zFS st.bx rb2) (ht : sliceB P t el = true) (he : FZ P el e = true)
  (next : A1 P X ops dr Q r (i + 1) (BU.upd ⟨gs ++ [(x, d), (y, d2)], (b, .vec e (xs.map f)) :: rb2, some s, some (vD (.int .i64 ((zA4 ys.length len : Nat) : Int))), [(b, .vec e ((Nn xs lo (ys.take (zA4 ys.length len))).map f))], []⟩ st) ((i, ⟨gs ++ [(x, d), (y, d2)], (b, .vec e (xs.map f)) :: rb2, some s, some (vD (.int .i64 ((zA4 ys.length len : Nat) : Int))), [(b, .vec e ((Nn xs lo (ys.take (zA4 ys.length len))).map f))], []⟩) :: log)) : A1 P X ops dr Q (r + 1) i st log := by
 have hl : (ys.map f).length = ys.length := vO _
 refine Ur hat hx hD hb hy hS hb2 ht he (rows' := (Nn xs lo (ys.take (zA4 ys.length len))).map f) ?_ ?_
 ·rw [hl, ← List.map_take, Tj]
 ·rw [hl]; exact next
end run
theorem TB {c : Code} {Q : Exit → St → Prop} {st : St} (h : W P X c (fun e st => ∃ st', E0 P X st st' ∧ Q e st') st) : W P X c Q st := by
 intro a w hs
 refine wp_mono (h a w hs) ?_
 rintro e a' w' ⟨st', ⟨st2, h1, h2⟩, h3⟩
 exact ⟨st2, h2, h1 a' w' h3⟩
def PY (f : Nat → Nat) (env : Nat → Option D) : List (Nat × D) → Prop
 | [] => True
 | (s, d) :: ps => env s = some (d.ren f) ∧ PY f env ps
def Qc (f : Nat → Nat) (bx : Nat → Option Bi) : List (Nat × Bi) → Prop
 | [] => True
 | (b, k) :: ps => bx (f b) = some (k.ren f) ∧ Qc f bx ps
def DX : List (Nat × Bi) → List Nat
 | [] => []
 | (b, _) :: ps => b :: DX ps
def Kb (f : Nat → Nat) : List Nat → Bool
 | [] => true
 | b :: bs => (if Bz b then f b == b else !Bz (f b)) && Kb f bs
def Vn (b : Nat) : List Nat → Bool
 | [] => false
 | c :: cs => c == b || Vn b cs
def Mu (ns : List Nat) : List (Nat × D) → Bool
 | [] => true
 | (_, d) :: ps => (d.names.all fun b => Vn b ns) && Mu ns ps
def MN (ns : List Nat) : List (Nat × Bi) → Bool
 | [] => true
 | (_, d) :: ps => (d.names.all fun b => Vn b ns) && MN ns ps
theorem OP {f : Nat → Nat} {env : Nat → Option D} : ∀ {el : List (Nat × D)}, PY f env el → Sy f env el
 | [], _ => trivial
 | (_, _) :: _, h => ⟨h.1, OP h.2⟩
theorem OO {f : Nat → Nat} {bx : Nat → Option Bi} : ∀ {bl : List (Nat × Bi)}, Qc f bx bl → S3 f bx bl
 | [], _ => trivial
 | (_, _) :: _, h => ⟨h.1, OO h.2⟩
theorem MW : ∀ bl : List (Nat × Bi), DX bl = bl.map (·.1)
 | [] => rfl
 | (b, k) :: ps => by simp [DX, MW ps]
theorem MF {f : Nat → Nat} : ∀ bl : List (Nat × Bi), Kb f (DX bl) = bl.all fun p => if Bz p.1 then f p.1 == p.1 else !Bz (f p.1)
 | [] => rfl
 | (b, k) :: ps => by simp only [DX, Kb, zA7, MF ps]
theorem PB {b : Nat} : ∀ bl : List (Nat × Bi), Vn b (DX bl) = bl.any fun q => q.1 == b
 | [] => rfl
 | (c, k) :: ps => by simp only [DX, Vn, zE5, PB ps]
theorem OE (bl : List (Nat × Bi)) : ∀ el : List (Nat × D), Mu (DX bl) el = el.all fun p => p.2.names.all fun b => bl.any fun q => q.1 == b
 | [] => rfl
 | (s, d) :: ps => by simp only [Mu, zA7, OE bl ps, PB]
theorem OC (bl : List (Nat × Bi)) : ∀ el : List (Nat × Bi), MN (DX bl) el = el.all fun p => p.2.names.all fun b => bl.any fun q => q.1 == b
 | [] => rfl
 | (s, d) :: ps => by simp only [MN, zA7, OC bl ps, PB]
theorem Rh {st : St} (f : Nat → Nat) (el : List (Nat × D)) (bl : List (Nat × Bi)) (he : PY f st.env el) (hb : Qc f st.bx bl) (hi : (GY ((DX bl).map f) && Kb f (DX bl)) = true) (hs : (Mu (DX bl) el && MN (DX bl) bl) = true) : E0 P X st (mk el bl) := by
 refine Tb f el bl (OP he) (OO hb) ?_ ?_
 ·rw [MF, MW] at hi; exact hi
 ·rw [OE, OC] at hs; exact hs
theorem Qn {dr : Bool} {Q : St → Prop} {r i : Nat} {st : St} {log : List (Nat × BU)} {gs : List (Operand × D)} {x y : Operand} {t s : Nat} {b : ByteArray} {k : IntKind} {n v : Int} (hat : At st.env ops i X.n (.index t x y) s gs)
  (hx : opd st.env x = some (vD (.string b))) (hy : opd st.env y = some (vD (.int k n))) (ht : KB P t = true) (hv : SX b n = some v)
  (next : A1 P X ops dr Q r (i + 1) (BU.upd ⟨gs ++ [(x, vD (.string b)), (y, vD (.int k n))], [], some s, some (vD (.int .u8 v)), [], []⟩ st) ((i, ⟨gs ++ [(x, vD (.string b)), (y, vD (.int k n))], [], some s, some (vD (.int .u8 v)), [], []⟩) :: log)) : A1 P X ops dr Q (r + 1) i st log := by
 obtain ⟨c, h0, hc, e⟩ := Qy (f := some) (r := v) (by rw [hv]; rfl)
 cases e
 exact Q5 hat hx hy ht h0 hc next
theorem MK {t kt el : TypeId} {k : IntKind} (h1 : P.underlying t = some (.map kt el)) (h2 : P.underlying kt = some (.int k)) : OF P t (Value.int k) where
 ty := ⟨kt, el, .int k, h1, h2, fun a b => by simp [Instr.sameNow], fun e n v w => by
  unfold Instr.checkKey
  refine Ag (AC h2 w) ?_
  rfl⟩
 same := fun a b h => by
  show (k == k && b == a) = true
  rw [beq_iff_eq] at h; subst h; simp
end Go.Lift
namespace Go.Lift
open Go.RowKit
variable {P : Program} {X : F6} {ops : Array Oper}
def hd (env : Nat → Option D) (ops : Array Oper) (i n : Nat) : Option (Op × Nat × List (Operand × D)) := match Wu ops i n with
 | some (op, s) => some (op, s, [])
 | none => match WF ops i n with
  | some (op, s, t, want) => (match env t, want with
   | some (.e (.one (.pure (.val (.bool true))))), true => some (op, s, [(.tmp t, bD true)])
   | some (.e (.one (.pure (.val (.bool false))))), false => some (op, s, [(.tmp t, bD false)])
   | _, _ => none)
  | none => none
theorem Cs {env : Nat → Option D} {n i s : Nat} {op : Op} {gs : List (Operand × D)} (h : hd env ops i n = some (op, s, gs)) : At env ops i n op s gs := by
 unfold hd at h
 split at h
 ·rename_i e; cases h; exact .p e
 ·split at h
  ·rename_i e
   split at h
   ·rename_i e2; cases h; exact .g e e2
   ·rename_i e2; cases h; exact .g e e2
   ·cases h
  ·cases h
theorem t2 {α β : Type} {a c : α} {b d : β} (h : (a, b) = (c, d)) : a = c ∧ b = d := Prod.mk.inj h
abbrev Nx (P : Program) (X : F6) (ops : Array Oper) (dr : Bool) (Q : St → Prop) (r i : Nat) (st : St) (log : List (Nat × BU)) (l : BU) : Prop := A1 P X ops dr Q r (i + 1) (BU.upd l st) ((i, l) :: log)
theorem sj {α : Type} {a b : α} (h : some a = some b) : a = b := Option.some.inj h
def RB (env : Nat → Option D) : List Operand → Option (List D)
 | [] => some []
 | x :: xs => match opd env x, RB env xs with
  | some d, some ds => some (d :: ds)
  | _, _ => none
theorem NV {env : Nat → Option D} : ∀ {xs : List Operand} {ds : List D}, RB env xs = some ds → xs.length = ds.length ∧ DL env (FR xs ds)
 | [], ds, h => by cases h; exact ⟨rfl, trivial⟩
 | x :: xs, ds, h => by
  simp only [RB] at h
  split at h
  ·rename_i e1 e2
   cases h
   have := NV e2
   exact ⟨by simp [this.1], e1, this.2⟩
  ·cases h
def Wl (bx : Nat → Option Bi) : List Nat → Option (List (Nat × Bi))
 | [] => some []
 | b :: bs => match bx b, Wl bx bs with
  | some k, some ks => some ((b, k) :: ks)
  | _, _ => none
theorem Ro {bx : Nat → Option Bi} : ∀ {l : List Nat} {bs : List (Nat × Bi)}, Wl bx l = some bs → zFS bx bs
 | [], bs, h => by cases h; trivial
 | b :: l, bs, h => by
  simp only [Wl] at h
  split at h
  ·rename_i e1 e2
   cases h
   exact ⟨e1, Ro e2⟩
  ·cases h
def UL (env : Nat → Option D) : List (Nat × Operand) → Option (List (Nat × Operand × E))
 | [] => some []
 | p :: ps => match opd env p.2, UL env ps with
  | some (.e y), some qs => some ((p.1, p.2, y) :: qs)
  | _, _ => none
theorem Qi {env : Nat → Option D} : ∀ {l : List (Nat × Operand)} {ps : List (Nat × Operand × E)}, UL env l = some ps → l = (ps.map fun p => (p.1, p.2.1)) ∧ DL env (FF ps)
 | [], ps, h => by cases h; exact ⟨rfl, trivial⟩
 | p :: l, ps, h => by
  simp only [UL] at h
  split at h
  ·rename_i e1 e2
   cases h
   have := Qi e2
   exact ⟨by rw [vU, ← this.1], e1, this.2⟩
  ·cases h
theorem Rw {env : Nat → Option D} {parts : Array (Nat × Operand)} {ps : List (Nat × Operand × E)} (h : UL env parts.toList = some ps) : parts = (ps.map fun p => (p.1, p.2.1)).toArray ∧ DL env (FF ps) := by
 have := Qi h
 exact ⟨by rw [← this.1], this.2⟩
def SN (k : Nat) : List (Nat × Operand × E) → Bool
 | [] => true
 | p :: ps => Nat.beq p.1 k && SN (k + 1) ps
theorem Qh : ∀ {k : Nat} {ps : List (Nat × Operand × E)}, SN k ps = true → ps.map (·.1) = zD5 k ps.length
 | _, [], _ => rfl
 | k, p :: ps, h => by
  simp only [SN, uT] at h
  rw [vU, zB6, List.range'_succ, Qh h.2, Nat.eq_of_beq_eq_true h.1]
def Wv : Option Bi → Bool
 | none => true
 | some _ => false
theorem Nl {bx : Nat → Option Bi} : ∀ {ns : List Nat}, (ns.all fun n => Wv (bx n)) = true → Kg bx ns
 | [], _ => trivial
 | n :: ns, h => by
  simp only [zA7, uT] at h
  refine ⟨?_, Nl h.2⟩
  have := h.1
  cases hb : bx n with
  | none => rfl
  | some k => rw [hb] at this; cases this
theorem MT {ns : List Nat} (h : (GY ns && (ns.all fun n => !Bz n)) = true) : Is ns := by
 rw [uT] at h
 exact ⟨Ec h.1, fun c hc => by simpa using uU.1 h.2 c hc⟩
def V9 (env : Nat → Option D) : List (Nat × D) → List (Option D)
 | [] => []
 | (s, _) :: ps => env s :: V9 env ps
def Wa (f : Nat → Nat) : List (Nat × D) → List (Option D)
 | [] => []
 | (_, d) :: ps => some (d.ren f) :: Wa f ps
def VI (f : Nat → Nat) (bx : Nat → Option Bi) : List (Nat × Bi) → List (Option Bi)
 | [] => []
 | (b, _) :: ps => bx (f b) :: VI f bx ps
def Wg (f : Nat → Nat) : List (Nat × Bi) → List (Option Bi)
 | [] => []
 | (_, k) :: ps => some (k.ren f) :: Wg f ps
theorem RG {f : Nat → Nat} {env : Nat → Option D} : ∀ {el : List (Nat × D)}, V9 env el = Wa f el → PY f env el
 | [], _ => trivial
 | (s, d) :: el, h => by
  simp only [V9, Wa] at h
  obtain ⟨h1, h2⟩ := List.cons.inj h
  exact ⟨h1, RG h2⟩
theorem Rs {f : Nat → Nat} {bx : Nat → Option Bi} : ∀ {el : List (Nat × Bi)}, VI f bx el = Wg f el → Qc f bx el
 | [], _ => trivial
 | (s, d) :: el, h => by
  simp only [VI, Wg] at h
  obtain ⟨h1, h2⟩ := List.cons.inj h
  exact ⟨h1, Rs h2⟩
theorem sm {st : St} (l : List (Nat × Nat)) (el : List (Nat × D)) (bl : List (Nat × Bi)) (h : (V9 st.env el, VI (rn l) st.bx bl) = (Wa (rn l) el, Wg (rn l) bl)) (hi : ((GY ((DX bl).map (rn l)) && Kb (rn l) (DX bl)) && (Mu (DX bl) el && MN (DX bl) bl)) = true) : E0 P X st (mk el bl) :=
 Rh (rn l) el bl (RG (t2 h).1) (Rs (t2 h).2) (zC0.1 hi).1 (zC0.1 hi).2
section run
variable {dr : Bool} {Q : St → Prop} {r i : Nat} {st : St} {log : List (Nat × BU)} {gs : List (Operand × D)}
theorem qm {x : Operand} {d : D} {s : Nat} (h : (hd st.env ops i X.n, opd st.env x) = (some (.move x, s, gs), some d)) (next : Nx P X ops dr Q r i st log ⟨gs ++ [(x, d)], [], some s, some d, [], []⟩) : A1 P X ops dr Q (r + 1) i st log :=
 Un (Cs (t2 h).1) (t2 h).2 next
theorem qa {x : Operand} {d : D} {s : Nat} (h : (hd st.env ops i X.n, opd st.env x) = (some (.assign x, s, gs), some d)) (next : Nx P X ops dr Q r i st log ⟨gs ++ [(x, d)], [], some s, some d, [], []⟩) : A1 P X ops dr Q (r + 1) i st log :=
 Q6 (Cs (t2 h).1) (t2 h).2 next
theorem qn {j t s : Nat} {want : Bool} (h : (Uj ops i X.n, st.env t) = (some (j, s, t, want), some (bD (!want)))) (next : Nx P X ops dr Q r i st log ⟨[(.tmp t, bD (!want))], [], some s, some uD, [], []⟩) : A1 P X ops dr Q (r + 1) i st log :=
 Uc (t2 h).1 (t2 h).2 next
theorem qu {j t s : Nat} {want : Bool} (h : (Uj ops i X.n, st.env t) = (some (j, s, t, want), some uD)) (next : Nx P X ops dr Q r i st log ⟨[(.tmp t, uD)], [], some s, some uD, [], []⟩) : A1 P X ops dr Q (r + 1) i st log :=
 UK (t2 h).1 (t2 h).2 next
theorem qp {c x y : Operand} {b : Bool} {d : D} {z : Operand} {s : Nat} (h : (hd st.env ops i X.n, opd st.env c, (if b then x else y), opd st.env z) = (some (.pick c x y, s, gs), some (bD b), z, some d)) (next : Nx P X ops dr Q r i st log ⟨gs ++ [(c, bD b), (z, d)], [], some s, some d, [], []⟩) : A1 P X ops dr Q (r + 1) i st log :=
 UI (Cs (t2 h).1) (t2 (t2 h).2).1 (t2 (t2 (t2 h).2).2).1 (t2 (t2 (t2 h).2).2).2 next
theorem qf {x : Operand} {b k f off s : Nat} {t : TypeId} (hf : Bx P t f off = true) (h : (hd st.env ops i X.n, opd st.env x) = (some (.fieldAddr t x f, s, gs), some (.e (.one (.ptr b k))))) (next : Nx P X ops dr Q r i st log ⟨gs ++ [(x, .e (.one (.ptr b k)))], [], some s, some (.e (.one (.ptr b (k + off)))), [], []⟩) : A1 P X ops dr Q (r + 1) i st log :=
 N3 (Cs (t2 h).1) (t2 h).2 hf next
theorem qg {x : Operand} {ts us : List T} {f off s : Nat} {t : TypeId} (hf : Bx P t f off = true) (h : (hd st.env ops i X.n, opd st.env x, zB9 (off) (ts.length), ts.drop off) = (some (.fieldAddr t x f, s, gs), some (.e (.one (.rop ts))), true, us)) (next : Nx P X ops dr Q r i st log ⟨gs ++ [(x, .e (.one (.rop ts)))], [], some s, some (.e (.one (.rop us))), [], []⟩) : A1 P X ops dr Q (r + 1) i st log :=
 Nc (Cs (t2 h).1) (t2 (t2 h).2).1 hf (vP (t2 (t2 (t2 h).2).2).1) (t2 (t2 (t2 h).2).2).2 next
theorem ql {x : Operand} {b k s : Nat} {cells : List C} {c : C} {t : TypeId} (ht : D1 P t false = true) (h : (hd st.env ops i X.n, opd st.env x, st.bx b, cells[k]?) = (some (.load t x, s, gs), some (.e (.one (.ptr b k))), some (.box cells), some c)) (next : Nx P X ops dr Q r i st log ⟨gs ++ [(x, .e (.one (.ptr b k)))], [(b, .box cells)], some s, some (.e (.one c)), [], []⟩) : A1 P X ops dr Q (r + 1) i st log :=
 SQ (Cs (t2 h).1) (t2 (t2 h).2).1 ht (t2 (t2 (t2 h).2).2).1 (t2 (t2 (t2 h).2).2).2 next
theorem qL {x : Operand} {b k n s : Nat} {cells cs : List C} {t : TypeId} (ht : D1 P t true = true) (hz : FZ P t n = true) (h : (hd st.env ops i X.n, opd st.env x, st.bx b, (cells.drop k).take n, cs.length) = (some (.load t x, s, gs), some (.e (.one (.ptr b k))), some (.box cells), cs, n)) (next : Nx P X ops dr Q r i st log ⟨gs ++ [(x, .e (.one (.ptr b k)))], [(b, .box cells)], some s, some (.e (.agg cs)), [], []⟩) : A1 P X ops dr Q (r + 1) i st log :=
 Sx (Cs (t2 h).1) (t2 (t2 h).2).1 ht hz (t2 (t2 (t2 h).2).2).1 (t2 (t2 (t2 (t2 h).2).2).2).1 (t2 (t2 (t2 (t2 h).2).2).2).2 next
theorem qk {x : Operand} {s : Nat} {ts : List T} {u : T} {t : TypeId} (ht : D1 P t false = true) (h : (hd st.env ops i X.n, opd st.env x, ts[0]?) = (some (.load t x, s, gs), some (.e (.one (.rop ts))), some u)) (next : Nx P X ops dr Q r i st log ⟨gs ++ [(x, .e (.one (.rop ts)))], [], some s, some (one u), [], []⟩) : A1 P X ops dr Q (r + 1) i st log :=
 RI (Cs (t2 h).1) (t2 (t2 h).2).1 ht (t2 (t2 h).2).2 next
theorem qK {x : Operand} {s n : Nat} {ts us : List T} {t : TypeId} (ht : D1 P t true = true) (hz : FZ P t n = true) (h : (hd st.env ops i X.n, opd st.env x, ts.take n, us.length) = (some (.load t x, s, gs), some (.e (.one (.rop ts))), us, n)) (next : Nx P X ops dr Q r i st log ⟨gs ++ [(x, .e (.one (.rop ts)))], [], some s, some (.e (.agg (us.map C.pure))), [], []⟩) : A1 P X ops dr Q (r + 1) i st log :=
 Rx (Cs (t2 h).1) (t2 (t2 h).2).1 ht hz (t2 (t2 (t2 h).2).2).1 (t2 (t2 (t2 h).2).2).2 next
theorem qx {x : Operand} {xs : List E} {y : E} {k s : Nat} (h : (hd st.env ops i X.n, opd st.env x, xs[k]?) = (some (.extract x k, s, gs), some (.tup xs), some y)) (next : Nx P X ops dr Q r i st log ⟨gs ++ [(x, .tup xs)], [], some s, some (.e y), [], []⟩) : A1 P X ops dr Q (r + 1) i st log :=
 QC (Cs (t2 h).1) (t2 (t2 h).2).1 (t2 (t2 h).2).2 next
theorem qb {x : Operand} {y : E} {s : Nat} {el : TypeId} (h : (hd st.env ops i X.n, opd st.env x, st.bx s) = (some (.box el x, s, gs), some (.e y), none)) (next : Nx P X ops dr Q r i st log ⟨gs ++ [(x, .e y)], [], some s, some (.e (.one (.ptr s 0))), [(s, .box y.cells)], [s]⟩) : A1 P X ops dr Q (r + 1) i st log :=
 U0 (Cs (t2 h).1) (t2 (t2 h).2).1 (t2 (t2 h).2).2 next
theorem qz {z : Value} {zs : List Value} {s : Nat} {el : TypeId} (hz : Dm P el = some z) (h : (hd st.env ops i X.n, z.cells.toList, zs.all FM, st.bx s) = (some (.alloc el, s, gs), zs, true, none)) (next : Nx P X ops dr Q r i st log ⟨gs ++ [], [], some s, some (.e (.one (.ptr s 0))), [(s, .box (zs.map fun v => C.pure (T.of v)))], [s]⟩) : A1 P X ops dr Q (r + 1) i st log :=
 SJ (Cs (t2 h).1) hz (t2 (t2 h).2).1 (t2 (t2 (t2 h).2).2).1 (t2 (t2 (t2 h).2).2).2 next
theorem qs {x y : Operand} {b k n : Nat} {cells cells' : List C} {v : E} {t : TypeId} (hz : FZ P t n = true) (h : (Qk ops i, opd st.env x, opd st.env y, st.bx b, v.cells.length, zB9 (k + n) (cells.length), Hs cells k v.cells) = (some (.store t x y), some (.e (.one (.ptr b k))), some (.e v), some (.box cells), n, true, cells')) (next : Nx P X ops dr Q r i st log ⟨[(x, .e (.one (.ptr b k))), (y, .e v)], [(b, .box cells)], none, none, [(b, .box cells')], []⟩) : A1 P X ops dr Q (r + 1) i st log :=
 SK (t2 h).1 (t2 (t2 h).2).1 (t2 (t2 (t2 h).2).2).1 (t2 (t2 (t2 (t2 h).2).2).2).1 hz (t2 (t2 (t2 (t2 (t2 h).2).2).2).2).1 (vP (t2 (t2 (t2 (t2 (t2 (t2 h).2).2).2).2).2).1) (t2 (t2 (t2 (t2 (t2 (t2 h).2).2).2).2).2).2 next
theorem qi {x y : Operand} {s e : Nat} {rows : List (List T)} {row : List T} {t el : TypeId} {k : IntKind} {n : Int} (ht : sliceB P t el = true) (hz : FZ P el e = true) (h0 : 0 ≤ n) (hrow : rows[n.toNat]? = some row) (h : (hd st.env ops i X.n, opd st.env x, opd st.env y, row.length) = (some (.indexAddr t x y, s, gs), some (one (.sl rows)), some (vD (.int k n)), e)) (next : Nx P X ops dr Q r i st log ⟨gs ++ [(x, one (.sl rows)), (y, vD (.int k n))], [], some s, some (.e (.one (.rop row))), [], []⟩) : A1 P X ops dr Q (r + 1) i st log :=
 Sz (Cs (t2 h).1) (t2 (t2 h).2).1 (t2 (t2 (t2 h).2).2).1 ht hz h0 hrow (t2 (t2 (t2 h).2).2).2 next
theorem qI {x y : Operand} {s e b : Nat} {rows : List (List T)} {row : List T} {t el : TypeId} {k : IntKind} {n : Int} (ht : sliceB P t el = true) (hz : FZ P el e = true) (h0 : 0 ≤ n) (hrow : rows[n.toNat]? = some row) (h : (hd st.env ops i X.n, opd st.env x, opd st.env y, st.bx b) = (some (.indexAddr t x y, s, gs), some (.e (.one (.own b))), some (vD (.int k n)), some (.vec e rows))) (next : Nx P X ops dr Q r i st log ⟨gs ++ [(x, .e (.one (.own b))), (y, vD (.int k n))], [(b, .vec e rows)], some s, some (.e (.one (.eptr b e n.toNat 0))), [], []⟩) : A1 P X ops dr Q (r + 1) i st log :=
 Oe (Cs (t2 h).1) (t2 (t2 h).2).1 (t2 (t2 (t2 h).2).2).1 (t2 (t2 (t2 h).2).2).2 ht hz h0 hrow next
theorem qj {x : Operand} {b e ix k s : Nat} {rows : List (List T)} {row : List T} {u : T} {t : TypeId} (ht : D1 P t false = true) (hrow : rows[ix]? = some row) (h : (hd st.env ops i X.n, opd st.env x, st.bx b, row[k]?) = (some (.load t x, s, gs), some (.e (.one (.eptr b e ix k))), some (.vec e rows), some u)) (next : Nx P X ops dr Q r i st log ⟨gs ++ [(x, .e (.one (.eptr b e ix k)))], [(b, .vec e rows)], some s, some (one u), [], []⟩) : A1 P X ops dr Q (r + 1) i st log :=
 Ot (Cs (t2 h).1) (t2 (t2 h).2).1 ht (t2 (t2 (t2 h).2).2).1 hrow (t2 (t2 (t2 h).2).2).2 next
theorem qJ {x : Operand} {b e ix s : Nat} {rows : List (List T)} {row : List T} {t : TypeId} (ht : D1 P t true = true) (hz : FZ P t e = true) (hrow : rows[ix]? = some row) (h : (hd st.env ops i X.n, opd st.env x, st.bx b) = (some (.load t x, s, gs), some (.e (.one (.eptr b e ix 0))), some (.vec e rows))) (next : Nx P X ops dr Q r i st log ⟨gs ++ [(x, .e (.one (.eptr b e ix 0)))], [(b, .vec e rows)], some s, some (.e (.agg (row.map C.pure))), [], []⟩) : A1 P X ops dr Q (r + 1) i st log :=
 R6 (Cs (t2 h).1) (t2 (t2 h).2).1 ht hz (t2 (t2 h).2).2 hrow next
theorem Hx {x : Operand} {s b k : Nat} (h : (hd st.env ops i X.n, opd st.env x) = (some (.nilCheck x, s, gs), some (.e (.one (.ptr b k))))) (next : Nx P X ops dr Q r i st log ⟨gs ++ [(x, .e (.one (.ptr b k)))], [], some s, some (.e (.one (.ptr b k))), [], []⟩) : A1 P X ops dr Q (r + 1) i st log :=
 PC (Cs (t2 h).1) (t2 h).2 next
theorem Cq {k : IntKind} {xt yt : TypeId} {x y : Operand} {a b : Int} {s : Nat} (h : (hd st.env ops i X.n, opd st.env x, opd st.env y) = (some (.binOp .add xt x y yt, s, gs), some (vD (.int k a)), some (vD (.int k b)))) (next : Nx P X ops dr Q r i st log ⟨gs ++ [(x, vD (.int k a)), (y, vD (.int k b))], [], some s, some (vD (.int k (k.wrap (a + b)))), [], []⟩) : A1 P X ops dr Q (r + 1) i st log :=
 D8 (Cs (t2 h).1) (t2 (t2 h).2).1 (t2 (t2 h).2).2 (Sw _ _ _ _ _ _) rfl next
theorem KE {k : IntKind} {xt yt : TypeId} {x y : Operand} {a b : Int} {s : Nat} (h : (hd st.env ops i X.n, opd st.env x, opd st.env y) = (some (.binOp .sub xt x y yt, s, gs), some (vD (.int k a)), some (vD (.int k b)))) (next : Nx P X ops dr Q r i st log ⟨gs ++ [(x, vD (.int k a)), (y, vD (.int k b))], [], some s, some (vD (.int k (k.wrap (a - b)))), [], []⟩) : A1 P X ops dr Q (r + 1) i st log :=
 D8 (Cs (t2 h).1) (t2 (t2 h).2).1 (t2 (t2 h).2).2 (Ta _ _ _ _ _ _) rfl next
theorem Mp {k : IntKind} {xt yt : TypeId} {x y : Operand} {a b : Int} {s : Nat} (h : (hd st.env ops i X.n, opd st.env x, opd st.env y) = (some (.binOp .mul xt x y yt, s, gs), some (vD (.int k a)), some (vD (.int k b)))) (next : Nx P X ops dr Q r i st log ⟨gs ++ [(x, vD (.int k a)), (y, vD (.int k b))], [], some s, some (vD (.int k (k.wrap (a * b)))), [], []⟩) : A1 P X ops dr Q (r + 1) i st log :=
 D8 (Cs (t2 h).1) (t2 (t2 h).2).1 (t2 (t2 h).2).2 (Sv _ _ _ _ _ _) rfl next
theorem AN {k : IntKind} {xt yt : TypeId} {x y : Operand} {a b : Int} {s : Nat} (h : (hd st.env ops i X.n, opd st.env x, opd st.env y) = (some (.binOp .eql xt x y yt, s, gs), some (vD (.int k a)), some (vD (.int k b)))) (next : Nx P X ops dr Q r i st log ⟨gs ++ [(x, vD (.int k a)), (y, vD (.int k b))], [], some s, some (vD (.bool (a == b))), [], []⟩) : A1 P X ops dr Q (r + 1) i st log :=
 D8 (Cs (t2 h).1) (t2 (t2 h).2).1 (t2 (t2 h).2).2 (SH _ _ _ _ _ _) rfl next
theorem BG {k : IntKind} {xt yt : TypeId} {x y : Operand} {a b : Int} {s : Nat} (h : (hd st.env ops i X.n, opd st.env x, opd st.env y) = (some (.binOp .neq xt x y yt, s, gs), some (vD (.int k a)), some (vD (.int k b)))) (next : Nx P X ops dr Q r i st log ⟨gs ++ [(x, vD (.int k a)), (y, vD (.int k b))], [], some s, some (vD (.bool (a != b))), [], []⟩) : A1 P X ops dr Q (r + 1) i st log :=
 D8 (Cs (t2 h).1) (t2 (t2 h).2).1 (t2 (t2 h).2).2 (Tp _ _ _ _ _ _) rfl next
theorem A4 {k : IntKind} {xt yt : TypeId} {x y : Operand} {a b : Int} {s : Nat} (h : (hd st.env ops i X.n, opd st.env x, opd st.env y) = (some (.binOp .lss xt x y yt, s, gs), some (vD (.int k a)), some (vD (.int k b)))) (next : Nx P X ops dr Q r i st log ⟨gs ++ [(x, vD (.int k a)), (y, vD (.int k b))], [], some s, some (vD (.bool (decide (a < b)))), [], []⟩) : A1 P X ops dr Q (r + 1) i st log :=
 D8 (Cs (t2 h).1) (t2 (t2 h).2).1 (t2 (t2 h).2).2 (So _ _ _ _ _ _) rfl next
theorem ME {k : IntKind} {xt yt : TypeId} {x y : Operand} {a b : Int} {s : Nat} (h : (hd st.env ops i X.n, opd st.env x, opd st.env y) = (some (.binOp .leq xt x y yt, s, gs), some (vD (.int k a)), some (vD (.int k b)))) (next : Nx P X ops dr Q r i st log ⟨gs ++ [(x, vD (.int k a)), (y, vD (.int k b))], [], some s, some (vD (.bool (decide (a ≤ b)))), [], []⟩) : A1 P X ops dr Q (r + 1) i st log :=
 D8 (Cs (t2 h).1) (t2 (t2 h).2).1 (t2 (t2 h).2).2 (Ss _ _ _ _ _ _) rfl next
theorem DZ {k : IntKind} {xt yt : TypeId} {x y : Operand} {a b : Int} {s : Nat} (h : (hd st.env ops i X.n, opd st.env x, opd st.env y) = (some (.binOp .gtr xt x y yt, s, gs), some (vD (.int k a)), some (vD (.int k b)))) (next : Nx P X ops dr Q r i st log ⟨gs ++ [(x, vD (.int k a)), (y, vD (.int k b))], [], some s, some (vD (.bool (decide (b < a)))), [], []⟩) : A1 P X ops dr Q (r + 1) i st log :=
 D8 (Cs (t2 h).1) (t2 (t2 h).2).1 (t2 (t2 h).2).2 (Sr _ _ _ _ _ _) rfl next
theorem Dx {k : IntKind} {xt yt : TypeId} {x y : Operand} {a b : Int} {s : Nat} (h : (hd st.env ops i X.n, opd st.env x, opd st.env y) = (some (.binOp .geq xt x y yt, s, gs), some (vD (.int k a)), some (vD (.int k b)))) (next : Nx P X ops dr Q r i st log ⟨gs ++ [(x, vD (.int k a)), (y, vD (.int k b))], [], some s, some (vD (.bool (decide (b ≤ a)))), [], []⟩) : A1 P X ops dr Q (r + 1) i st log :=
 D8 (Cs (t2 h).1) (t2 (t2 h).2).1 (t2 (t2 h).2).2 (Td _ _ _ _ _ _) rfl next
theorem MU {k : IntKind} {xt yt : TypeId} {x y : Operand} {a b : Int} {s : Nat} (h : (hd st.env ops i X.n, opd st.env x, opd st.env y) = (some (.binOp .and xt x y yt, s, gs), some (vD (.int k a)), some (vD (.int k b)))) (next : Nx P X ops dr Q r i st log ⟨gs ++ [(x, vD (.int k a)), (y, vD (.int k b))], [], some s, some (vD (.int k (Fi k a b))), [], []⟩) : A1 P X ops dr Q (r + 1) i st log :=
 D8 (Cs (t2 h).1) (t2 (t2 h).2).1 (t2 (t2 h).2).2 (SY _ _ _ _ _ _) rfl next
theorem Q9 {k : IntKind} {xt yt : TypeId} {x y : Operand} {a b : Int} {s : Nat} (h : (hd st.env ops i X.n, opd st.env x, opd st.env y) = (some (.binOp .or xt x y yt, s, gs), some (vD (.int k a)), some (vD (.int k b)))) (next : Nx P X ops dr Q r i st log ⟨gs ++ [(x, vD (.int k a)), (y, vD (.int k b))], [], some s, some (vD (.int k (KL k a b))), [], []⟩) : A1 P X ops dr Q (r + 1) i st log :=
 D8 (Cs (t2 h).1) (t2 (t2 h).2).1 (t2 (t2 h).2).2 (Uu _ _ _ _ _ _) rfl next
theorem GM {k : IntKind} {xt yt : TypeId} {x y : Operand} {a b : Int} {s : Nat} (h : (hd st.env ops i X.n, opd st.env x, opd st.env y) = (some (.binOp .andNot xt x y yt, s, gs), some (vD (.int k a)), some (vD (.int k b)))) (next : Nx P X ops dr Q r i st log ⟨gs ++ [(x, vD (.int k a)), (y, vD (.int k b))], [], some s, some (vD (.int k (Cc k a b))), [], []⟩) : A1 P X ops dr Q (r + 1) i st log :=
 D8 (Cs (t2 h).1) (t2 (t2 h).2).1 (t2 (t2 h).2).2 (Ph _ _ _ _ _ _) rfl next
theorem H0 {k k' : IntKind} {xt yt : TypeId} {x y : Operand} {a b : Int} {s : Nat} (h : (hd st.env ops i X.n, opd st.env x, opd st.env y) = (some (.binOp .shl xt x y yt, s, gs), some (vD (.int k a)), some (vD (.int k' b)))) (hc : 0 ≤ b) (next : Nx P X ops dr Q r i st log ⟨gs ++ [(x, vD (.int k a)), (y, vD (.int k' b))], [], some s, some (vD (.int k (Dk k a b))), [], []⟩) : A1 P X ops dr Q (r + 1) i st log :=
 D8 (Cs (t2 h).1) (t2 (t2 h).2).1 (t2 (t2 h).2).2 (Th _ _ _ _ _ _ _ hc) rfl next
theorem Kt {k k' : IntKind} {xt yt : TypeId} {x y : Operand} {a b : Int} {s : Nat} (h : (hd st.env ops i X.n, opd st.env x, opd st.env y) = (some (.binOp .shr xt x y yt, s, gs), some (vD (.int k a)), some (vD (.int k' b)))) (hc : 0 ≤ b) (next : Nx P X ops dr Q r i st log ⟨gs ++ [(x, vD (.int k a)), (y, vD (.int k' b))], [], some s, some (vD (.int k (Fp k a b))), [], []⟩) : A1 P X ops dr Q (r + 1) i st log :=
 D8 (Cs (t2 h).1) (t2 (t2 h).2).1 (t2 (t2 h).2).2 (SO _ _ _ _ _ _ _ hc) rfl next
theorem UX {k : IntKind} {xt yt : TypeId} {x y : Operand} {a b : Int} {s : Nat} (h : (hd st.env ops i X.n, opd st.env x, opd st.env y) = (some (.binOp .rem xt x y yt, s, gs), some (vD (.int k a)), some (vD (.int k b)))) (hc : b ≠ 0) (next : Nx P X ops dr Q r i st log ⟨gs ++ [(x, vD (.int k a)), (y, vD (.int k b))], [], some s, some (vD (.int k (a.tmod b))), [], []⟩) : A1 P X ops dr Q (r + 1) i st log :=
 D8 (Cs (t2 h).1) (t2 (t2 h).2).1 (t2 (t2 h).2).2 (Tr _ _ _ _ _ _ hc) rfl next
theorem Cz {xt : TypeId} {x : Operand} {b : Bool} {s : Nat} (h : (hd st.env ops i X.n, opd st.env x) = (some (.unOp .not xt x, s, gs), some (bD b))) (next : Nx P X ops dr Q r i st log ⟨gs ++ [(x, bD b)], [], some s, some (vD (.bool (!b))), [], []⟩) : A1 P X ops dr Q (r + 1) i st log :=
 Wr (Cs (t2 h).1) (t2 h).2 (Uo _) rfl next
theorem J5 {xt yt : TypeId} {k k' : IntKind} {x : Operand} {a : Int} {s : Nat} (hs : (P.underlying xt).isSome = true) (ht : NM P yt k = true) (h : (hd st.env ops i X.n, opd st.env x) = (some (.convert xt yt x, s, gs), some (vD (.int k' a)))) (next : Nx P X ops dr Q r i st log ⟨gs ++ [(x, vD (.int k' a))], [], some s, some (vD (.int k (k.wrap a))), [], []⟩) : A1 P X ops dr Q (r + 1) i st log :=
 Uz (Cs (t2 h).1) (t2 h).2 (RY hs ht _ _) rfl next
theorem AH {α : Type} {f : α → List T} {xs : List α} {x : Operand} {s : Nat} {t el : TypeId} (ht : sliceB P t el = true) (h : (hd st.env ops i X.n, opd st.env x) = (some (.call ⟨.builtin .len, #[x], #[t]⟩, s, gs), some (one (.sl (xs.map f))))) (next : Nx P X ops dr Q r i st log ⟨gs ++ [(x, one (.sl (xs.map f)))], [], some s, some (vD (.int .i64 (xs.length : Int))), [], []⟩) : A1 P X ops dr Q (r + 1) i st log :=
 TO (Cs (t2 h).1) (t2 h).2 (.sl _) trivial (vO _) ht next
theorem Pl {α : Type} {f : α → List T} {xs : List α} {x : Operand} {s b e : Nat} {t el : TypeId} (ht : sliceB P t el = true) (h : (hd st.env ops i X.n, opd st.env x, st.bx b) = (some (.call ⟨.builtin .len, #[x], #[t]⟩, s, gs), some (.e (.one (.own b))), some (.vec e (xs.map f)))) (next : Nx P X ops dr Q r i st log ⟨gs ++ [(x, .e (.one (.own b)))], [(b, .vec e (xs.map f))], some s, some (vD (.int .i64 (xs.length : Int))), [], []⟩) : A1 P X ops dr Q (r + 1) i st log :=
 TO (Cs (t2 h).1) (t2 (t2 h).2).1 (.own _ _ _) ⟨(t2 (t2 h).2).2, trivial⟩ (vO _) ht next
theorem Bt {t : TypeId} {s : Nat} {z : Value} {zs : List Value} {pl : List (Nat × Nat)} {cells : List C} {parts : Array (Nat × Operand)} {ps : List (Nat × Operand × E)} (hz : Dm P t = some z) (hpl : Gx P t = some pl) (h : (hd st.env ops i X.n, UL st.env parts.toList, z.cells.toList, zs.all FM, I8 (pl[·]?) (zs.map fun v => C.pure (T.of v)) (ps.map fun p => (p.1, p.2.2))) = (some (.build t parts, s, gs), some ps, zs, true, some cells)) (next : Nx P X ops dr Q r i st log ⟨gs ++ FF ps, [], some s, some (.e (.agg cells)), [], []⟩) : A1 P X ops dr Q (r + 1) i st log :=
 have q := Rw (t2 (t2 h).2).1
 SE ps (Cs (t2 h).1) (by rw [← q.1]) q.2 hz (t2 (t2 (t2 h).2).2).1 (t2 (t2 (t2 (t2 h).2).2).2).1 hpl (t2 (t2 (t2 (t2 h).2).2).2).2 next
theorem Ft {t el : TypeId} {s n e : Nat} {z : Value} {rows : List (List T)} {parts : Array (Nat × Operand)} {ps : List (Nat × Operand × E)} (ht : sliceB P t el = true) (he : FZ P el e = true) (hz : Dm P el = some z) (h : (hd st.env ops i X.n, UL st.env parts.toList, st.bx s, SN 0 ps, ps.length, zB9 (n * e) 16777216, (ps.map fun p => (p.1, p.2.2)).mapM (fun p => p.2.ts), rows.all (fun row => row.length == e)) = (some (.buildSlice t n parts, s, gs), some ps, none, true, n, true, some rows, true)) (next : Nx P X ops dr Q r i st log ⟨gs ++ FF ps, [], some s, some (.e (.one (.own s))), [(s, .vec e rows)], [s]⟩) : A1 P X ops dr Q (r + 1) i st log :=
 have q := Rw (t2 (t2 h).2).1
 have g := (t2 (t2 (t2 h).2).2).2
 NP ps (Cs (t2 h).1) (by rw [← q.1]) q.2 (t2 (t2 (t2 h).2).2).1 ht he hz (Qh (t2 g).1) (t2 (t2 g).2).1 (vP (t2 (t2 (t2 g).2).2).1) (t2 (t2 (t2 (t2 g).2).2).2).1 (t2 (t2 (t2 (t2 g).2).2).2).2 next
theorem Ax {f s : Nat} {xs : List Operand} {ds0 ds : List D} {rv : List (Nat × List (List T))} {res : D} {ts : Array TypeId} (ns : List Nat) (hc : Aq P f ds rv res) (hf : Az P f = true) (h : (hd st.env ops i X.n, RB st.env xs, ds0.map D.nrm, ds.all OL, ns.length, GY ns && (ns.all fun n => !Bz n), ns.all (fun n => Wv (st.bx n)), res.names.all (fun b => decide (b < rv.length))) = (some (.call ⟨.value (.func f), xs.toArray, ts⟩, s, gs), some ds0, ds, true, rv.length, true, true, true)) (next : Nx P X ops dr Q r i st log ⟨gs ++ FR xs ds0, [], some s, some (res.ren (nm ns)), G4 ns rv, ns⟩) : A1 P X ops dr Q (r + 1) i st log :=
 have q := NV (t2 (t2 h).2).1
 have g := (t2 (t2 (t2 h).2).2).2
 Ue ns hc (Cs (t2 h).1) hf q.1 q.2 (t2 (t2 (t2 h).2).2).1 (t2 g).1 (t2 (t2 g).2).1 (MT (t2 (t2 (t2 g).2).2).1) (Nl (t2 (t2 (t2 (t2 g).2).2).2).1) (t2 (t2 (t2 (t2 g).2).2).2).2 next
theorem Gy {f s : Nat} {xs : List Operand} {ds0 ds : List D} {rv : List (Nat × List (List T))} {res : D} {ts : Array TypeId} {bs : List (Nat × Bi)} (ns lb : List Nat) (hc : Aq P f ds rv res) (hf : Az P f = true) (hfv : N6 rv) (h : (hd st.env ops i X.n, RB st.env xs, Wl st.bx lb, ds0.map (fun d => (d.lend bs).nrm), ds.all OL, ns.length, GY ns && (ns.all fun n => !Bz n), ns.all (fun n => Wv (st.bx n)), res.flat, res.names.all (fun b => decide (b < rv.length))) = (some (.call ⟨.value (.func f), xs.toArray, ts⟩, s, gs), some ds0, some bs, ds, true, rv.length, true, true, true, true)) (next : Nx P X ops dr Q r i st log ⟨gs ++ FR xs ds0, bs, some s, some (res.ren (nm ns)), G4 ns rv, ns⟩) : A1 P X ops dr Q (r + 1) i st log :=
 have q := NV (t2 (t2 h).2).1
 have g := (t2 (t2 (t2 h).2).2).2
 have g2 := (t2 (t2 (t2 g).2).2).2
 S5 ns bs hc (Cs (t2 h).1) hf q.1 q.2 (Ro (t2 (t2 (t2 h).2).2).1) (t2 g).1 (t2 (t2 g).2).1 (t2 (t2 (t2 g).2).2).1 (MT (t2 g2).1) (Nl (t2 (t2 g2).2).1) (t2 (t2 (t2 g2).2).2).1 hfv (t2 (t2 (t2 g2).2).2).2 next
theorem Ln {α : Type} {f : α → List T} {xs : List α} {ys : List α} {x y : Operand} {t t2' el el2 s e bytes b b2 : Nat} {z : Value} (ht : sliceB P t el = true) (ht2 : sliceB P t2' el2 = true) (he : FZ P el e = true) (hby : FV P el bytes = true) (hz : Dm P el = some z) (hlim : xs.length + ys.length ≤ GZ) (h : (hd st.env ops i X.n, opd st.env x, st.bx b, opd st.env y, st.bx b2, st.bx s, z.cells.size, zB9 bytes 4096, [b].all (fun b => !Bz b)) = (some (.call ⟨.builtin .append, #[x, y], #[t, t2']⟩, s, gs), some (.e (.one (.own b))), some (.vec e (xs.map f)), some (.e (.one (.own b2))), some (.vec e (ys.map f)), none, e, true, true)) (next : Nx P X ops dr Q r i st log ⟨gs ++ [(x, .e (.one (.own b))), (y, .e (.one (.own b2)))], [(b, .vec e (xs.map f))] ++ [(b2, .vec e (ys.map f))], some s, some (.e (.one (.own s))), (s, .vec e ((xs ++ ys).map f)) :: HZ [b], [s]⟩) : A1 P X ops dr Q (r + 1) i st log :=
 ON (Cs (t2 h).1) (t2 (t2 h).2).1 (.own _ _ _) ⟨(t2 (t2 (t2 h).2).2).1, trivial⟩ (t2 (t2 (t2 (t2 h).2).2).2).1 (.own _ _ _) ⟨(t2 (t2 (t2 (t2 (t2 h).2).2).2).2).1, trivial⟩ (t2 (t2 (t2 (t2 (t2 (t2 h).2).2).2).2).2).1 ht ht2 he hby (vP (t2 (t2 (t2 (t2 (t2 (t2 (t2 (t2 h).2).2).2).2).2).2).2).1) hz (t2 (t2 (t2 (t2 (t2 (t2 (t2 h).2).2).2).2).2).2).1 (by simpa using hlim) (by simp) (t2 (t2 (t2 (t2 (t2 (t2 (t2 (t2 h).2).2).2).2).2).2).2).2 next
theorem Kd {α : Type} {f : α → List T} {xs : List α} {ys : List α} {x y : Operand} {t t2' el el2 s e bytes b : Nat} {z : Value} (ht : sliceB P t el = true) (ht2 : sliceB P t2' el2 = true) (he : FZ P el e = true) (hby : FV P el bytes = true) (hz : Dm P el = some z) (hf : ∀ x, (f x).length = e) (hlim : xs.length + ys.length ≤ GZ) (h : (hd st.env ops i X.n, opd st.env x, st.bx b, opd st.env y, st.bx s, z.cells.size, zB9 bytes 4096, [b].all (fun b => !Bz b)) = (some (.call ⟨.builtin .append, #[x, y], #[t, t2']⟩, s, gs), some (.e (.one (.own b))), some (.vec e (xs.map f)), some (one (.sl (ys.map f))), none, e, true, true)) (next : Nx P X ops dr Q r i st log ⟨gs ++ [(x, .e (.one (.own b))), (y, one (.sl (ys.map f)))], [(b, .vec e (xs.map f))] ++ [], some s, some (.e (.one (.own s))), (s, .vec e ((xs ++ ys).map f)) :: HZ [b], [s]⟩) : A1 P X ops dr Q (r + 1) i st log :=
 ON (Cs (t2 h).1) (t2 (t2 h).2).1 (.own _ _ _) ⟨(t2 (t2 (t2 h).2).2).1, trivial⟩ (t2 (t2 (t2 (t2 h).2).2).2).1 (.sl _ _ (HA hf _)) trivial (t2 (t2 (t2 (t2 (t2 h).2).2).2).2).1 ht ht2 he hby (vP (t2 (t2 (t2 (t2 (t2 (t2 (t2 h).2).2).2).2).2).2).1) hz (t2 (t2 (t2 (t2 (t2 (t2 h).2).2).2).2).2).1 (by simpa using hlim) (by simp) (t2 (t2 (t2 (t2 (t2 (t2 (t2 h).2).2).2).2).2).2).2 next
end run
end Go.Lift
namespace Go.Lift
open Go.RowKit
variable {P : Program}
def Vu (P : Program) : List D → List D → Prop
 | [], [] => True
 | a :: ar, b :: bs => (∀ (w : World) (G : Gh) (v : Value), FK P w G v a → FK P w G v b) ∧ Vu P ar bs
 | _, _ => False
theorem Vu.get : ∀ {ar bs : List D}, Vu P ar bs → ar.length = bs.length ∧ ∀ (j : Nat) (b : D), bs[j]? = some b → ∃ a, ar[j]? = some a ∧ ∀ (w : World) (G : Gh) (v : Value), FK P w G v a → FK P w G v b
 | [], [], _ => ⟨rfl, fun j b h => by simp at h⟩
 | a :: ar, b :: bs, h => by
  obtain ⟨h1, h2⟩ := Vu.get h.2
  refine ⟨by simp [h1], fun j c hj => ?_⟩
  cases j with
  | zero => simp at hj; subst hj; exact ⟨a, rfl, h.1⟩
  | succ j => obtain ⟨a', g1, g2⟩ := h2 j c (by simpa using hj); exact ⟨a', by simpa using g1, g2⟩
theorem Do.weak {f : FuncId} {ds ds' : List D} {lent : List (Bi × Bi)} {rv : List Bi} {res : D} (h : Do P f ds lent rv res) (hp : Vu P ds' ds) : Do P f ds' lent rv res := by
 intro w G vs h1 hgk h2 h3 h4 hlen hargs
 obtain ⟨g1, g2⟩ := hp.get
 refine h w G vs h1 hgk h2 h3 h4 (by rw [hlen, g1]) fun j d hj => ?_
 obtain ⟨a, e1, e2⟩ := g2 j d hj
 exact e2 w G _ (hargs j a e1)
end Go.Lift
namespace Go.Lift
open Go.RowKit
variable {P : Program} {X : F6} {ops : Array Oper}
section run
variable {dr : Bool} {Q : St → Prop} {r i : Nat} {st : St} {log : List (Nat × BU)} {gs : List (Operand × D)}
end run
end Go.Lift
namespace Go.Lift
abbrev iC (x : Int) : C := .pure (.val (.int .i64 x))
abbrev sC (l : List (List T)) : C := .pure (.sl l)
abbrev iD (x : Int) : D := .e (.one (.pure (.val (.int .i64 x))))
abbrev pD (t : T) : D := .e (.one (.pure t))
abbrev oD (c : C) : D := .e (.one c)
theorem tv : True := trivial
end Go.Lift
namespace Go.Lift
open Go.RowKit
variable {P : Program} {X : F6} {ops : Array Oper}
section run
variable {dr : Bool} {Q : St → Prop} {r i : Nat} {st : St} {log : List (Nat × BU)} {o : Oper} {gs : List (Operand × D)}
end run
end Go.Lift
namespace Go.Lift
open Go.RowKit
variable {P : Program} {X : F6} {ops : Array Oper}
def nt (b : Nat) (ns : List Nat) (c : Nat) : Nat := if c = 90900 then b else ns.getD c 0
section run
variable {dr : Bool} {Q : St → Prop} {r i : Nat} {st : St} {log : List (Nat × BU)} {o : Oper} {gs : List (Operand × D)}
end run
end Go.Lift
namespace Go.Lift
open Go.RowKit
variable {P : Program} {X : F6} {ops : Array Oper}
end Go.Lift
namespace Go.Lift
open Go.RowKit
variable {P : Program} {X : F6} {ops : Array Oper}
section run
variable {dr : Bool} {Q : St → Prop} {r i : Nat} {st : St} {log : List (Nat × BU)} {o : Oper} {gs : List (Operand × D)}
end run
end Go.Lift
namespace Go.Lift
open Go.RowKit
variable {P : Program} {X : F6} {ops : Array Oper}
section run
variable {dr : Bool} {Q : St → Prop} {r i : Nat} {st : St} {log : List (Nat × BU)} {o : Oper} {gs : List (Operand × D)}
end run
end Go.Lift
namespace Go.Lift
open Go.RowKit
variable {P : Program} {X : F6} {ops : Array Oper}
section run
variable {dr : Bool} {Q : St → Prop} {r i : Nat} {st : St} {log : List (Nat × BU)} {o : Oper} {gs : List (Operand × D)}
end run
end Go.Lift
namespace Go.Lift
open Go.RowKit
variable {P : Program} {X : F6} {ops : Array Oper}
section run
variable {dr : Bool} {Q : St → Prop} {r i : Nat} {st : St} {log : List (Nat × BU)} {o : Oper} {gs : List (Operand × D)}
end run
end Go.Lift
namespace Go.Lift
open Go.RowKit
variable {P : Program} {X : F6}
theorem Bj {α : Type} {c : Operand} {x y : Code} {Q : Exit → St → Prop} {st : St} {b : Bool} {e1 e2 : Option α} {v : α} (h : AI b e1 e2 = some v) (ht : e1 = some v → W P X x Q st) (hf : e2 = some v → W P X y Q st) (hc : opd st.env c = some (bD b) := by exact rfl) : W P X (.cond c x y) Q st :=
 Uy hc (fun k => ht (P2 k h)) (fun k => hf (PM k h))
theorem CJ {ops : Array Oper} {dr : Bool} {Q : St → Prop} {r i : Nat} {st : St} {log : List (Nat × BU)} {α : Type} {b : Bool} {e1 e2 : Option α} {v : α} (t : Nat) (h : AI b e1 e2 = some v) (hx : st.env t = some (bD b)) (h1 : e1 = some v → A1 P X ops dr Q r i (St.put st (some t) (some (bD true))) log) (h2 : e2 = some v → A1 P X ops dr Q r i (St.put st (some t) (some (bD false))) log) : A1 P X ops dr Q r i st log :=
 SD hx (fun k => h1 (P2 k h)) (fun k => h2 (PM k h))
theorem sn {V R : Type} {J : V → Option R} {r : R} {S : V → St} {s : St} {v : V} {el : List (Nat × D)} {bl : List (Nat × Bi)} (l : List (Nat × Nat)) (h : J v = some r) (e : S v = mk el bl := by exact rfl) (h1 : (V9 s.env el, VI (rn l) s.bx bl) = (Wa (rn l) el, Wg (rn l) bl) := by exact rfl) (h2 : ((GY ((DX bl).map (rn l)) && Kb (rn l) (DX bl)) && (Mu (DX bl) el && MN (DX bl) bl)) = true := by exact rfl) : ∃ v, J v = some r ∧ E0 P X s (S v) :=
 ⟨v, h, e ▸ sm l el bl h1 h2⟩
theorem W5 {y : Code} {id : Nat} {ops : Array Oper} {dr : Bool} {Q : Exit → St → Prop} {st : St} {n : Nat} (hm : P.follows .mixedOrders = true) (hn : ops.size = n)
  (h : A1 P X ops dr (fun st' => W P X y Q st') n 0 st []) : W P X (.seq (.region id ops dr) y) Q st :=
 AO (Ak hm hn h)
theorem BP {G : Prop} {α β : Type} {xs : List α} {i : Int} {f : α → Option β} {r : β} (h : (Bl xs i).bind f = some r) (k : ∀ x, 0 ≤ i → xs[i.toNat]? = some x → f x = some r → G) : G := by
 obtain ⟨x, a, b, c⟩ := Sd h
 exact k x a b c
theorem Ca {G : Prop} {α β : Type} {x : Option α} {f : α → Option β} {r : β} (h : x.bind f = some r) (k : ∀ a, x = some a → f a = some r → G) : G := by
 obtain ⟨a, b, c⟩ := bind_some h
 exact k a b c
theorem Hj {G : Prop} {β : Type} {p : Prop} [Decidable p] {f : Unit → Option β} {r : β} (h : (ER p).bind f = some r) (k : p → f () = some r → G) : G := k (GI h).1 (GI h).2
section
variable {ops : Array Oper} {dr : Bool} {Q : St → Prop} {r i : Nat} {st : St} {log : List (Nat × BU)} {gs : List (Operand × D)}
theorem qe {x : Operand} {d : D} {s : Nat} (h : (hd st.env ops i X.n, opd st.env x) = (some (.assign x, s, gs), some d)) (k : Q (BU.upd ⟨gs ++ [(x, d)], [], some s, some d, [], []⟩ st)) : A1 P X ops false Q (0 + 1) i st log :=
 qa h (Ac k)
def Rm (n : Nat) (ops : Array Oper) (i : Nat) (st : St) : Option BU :=
 match (match Uj ops i n with
  | some (_, s, t, want) => (match st.env t with
   | some (.e (.one (.pure (.val (.bool b))))) => (match b, want with
    | true, false => some (s, t, want)
    | false, true => some (s, t, want)
    | _, _ => none)
   | _ => none)
  | none => none) with
 | some (s, t, want) => some ⟨[(.tmp t, bD (!want))], [], some s, some uD, [], []⟩
 | none => match hd st.env ops i n with
  | some (.move x, s, gs) => (opd st.env x).map fun d => ⟨gs ++ [(x, d)], [], some s, some d, [], []⟩
  | _ => none
def Sn (n : Nat) (ops : Array Oper) : Nat → Nat → St → List (Nat × BU) → Option (St × List (Nat × BU))
 | 0, _, st, log => some (st, log)
 | k + 1, i, st, log => match Rm n ops i st with
  | none => none
  | some l => Sn n ops k (i + 1) (BU.upd l st) ((i, l) :: log)
theorem Q3 {l : BU} (h : Rm X.n ops i st = some l) (next : Nx P X ops dr Q r i st log l) : A1 P X ops dr Q (r + 1) i st log := by
 unfold Rm at h
 split at h
 ·rename_i s t want hh
  split at hh
  ·rename_i j s' t' want' ha
   split at hh
   ·rename_i b hb
    split at hh
    ·cases hh; cases h; exact qn (want := false) (by rw [ha, hb]; rfl) next
    ·cases hh; cases h; exact qn (want := true) (by rw [ha, hb]; rfl) next
    ·cases hh
   ·cases hh
  ·cases hh
 ·split at h
  ·rename_i x s gs' hh
   cases hd' : opd st.env x with
   | none => rw [hd'] at h; cases h
   | some d =>
    rw [hd'] at h
    cases h
    exact qm (by rw [hh, hd']) next
  ·cases h
theorem qw (k : Nat) {st' : St} {log' : List (Nat × BU)} (h : Sn X.n ops k i st log = some (st', log')) (next : A1 P X ops dr Q r (i + k) st' log') : A1 P X ops dr Q (r + k) i st log := by
 induction k generalizing i st log with
 | zero => cases h; exact next
 | succ k ih =>
  rw [Sn] at h
  split at h
  ·cases h
  ·rename_i l hl
   exact Q3 hl (ih h (by rwa [zC1, Nat.add_comm 1]))
end
theorem cw {f n : Nat} {fn : Func} {c : Code} {args : List D} {rv : List (Nat × List (List T))} {res : D} {rs : List ResultVar} (hf : P.funcs[f]? = some fn)
  (h : ∀ (w0 : World) (S0 : Nat → Prop), W P ⟨w0, S0, n, G0 S0⟩ c (fun e st => match e with | .normal | .ret => Rj P rs st rv res | _ => False) (Ud args))
  (hb : fn.body = some c := by exact rfl) (hn : fn.ntmps = n := by exact rfl) (hrs : fn.results.toList = rs := by exact rfl) (hl : args.length ≤ n := by exact GC rfl) (hn9 : n ≤ 90000 := by exact GC rfl) (hpub : args.all OL = true := by exact rfl) : Aq P f args rv res :=
 L4 hf hb hn hrs hl hn9 hpub h
theorem tm {st : St} {t : Nat} {x : E} (h : st.env t = some (.e x) := by exact rfl) : U2 P st [.tmp t] [x] := ⟨.tmp _ _ h, trivial⟩
end Go.Lift
namespace Go.Lift
open Go.RowKit Go.Shelf
def UR {α : Type} (c : α → α → Int) (x y : α) : Prop := c x y < 0 ∧ 0 < c y x
structure R3 {α : Type} (c : α → α → Int) (M : α → Prop) : Prop where
 self : ∀ x, M x → c x x = 0
 tri : ∀ x y, M x → M y → x = y ∨ UR c x y ∨ UR c y x
 trans : ∀ x y z, M x → M y → M z → UR c x y → UR c y z → UR c x z
namespace R3
variable {α : Type} {c : α → α → Int} {M : α → Prop}
theorem lt (O : R3 c M) {x y : α} (hx : M x) (hy : M y) : c x y < 0 ↔ UR c x y := by
 refine ⟨fun h => ?_, fun h => h.1⟩
 rcases O.tri x y hx hy with e | e | e
 ·subst e; have := O.self x hx; omega
 ·exact e
 ·have := e.2; omega
end R3
section
variable {P : Program} {ρ : Ren} {α : Type}
end
end Go.Lift
namespace Go.Lift
open Go.RowKit Go.Shelf
section
variable {α : Type}
end
end Go.Lift
namespace Go.Lift
open Option renaming bind_some → oS
open Go.RowKit Go.ChangeShapes Go.WideShapes
variable {P : Program} {X : F6} {ops : Array Oper}
section run
variable {dr : Bool} {Q : St → Prop} {r i : Nat} {st : St} {log : List (Nat × BU)} {o : Oper} {gs : List (Operand × D)}
theorem FE {xt : TypeId} (x y : Operand) (a b : ByteArray) (h : a.size + b.size ≤ 9223372036854775807) : EB P .add xt x y (.string a) (.string b) (.string (a ++ b)) := fun w => by
 have := run_string_add_sum (P := P) (w := w) a b h
 simp [binOp_string_add, eqGuard, this]
theorem LD {xt : TypeId} (x y : Operand) (a b : ByteArray) : EB P .eql xt x y (.string a) (.string b) (.bool (a.toList == b.toList)) := fun w => by simp [eqGuard, binOp_string_eql]
end run
theorem UH {W : World} (h : ∀ x, x ∈ Sj → ∀ g, P.globalNamed x.1 = some g → Lib.TabIs P W x.1 x.2.1 x.2.2) : Se P W (Pk W) := fun x hx g hg => by
 have h1 := h x hx g hg
 refine ⟨?_, h1⟩
 unfold Lib.TabIs World.var? at h1
 rw [hg, oS] at h1
 show g < W.heap.size
 split at h1
 ·rename_i e; exact (zF0.1 e).1
 ·cases h1
theorem OY {H : Type} {enc : TypeId × Value → H} {C : Checked} {os : Os} {f : FuncId} {fn : Func} {s : ChangeSpec} {conds : List PathCond} {tb : TypeId} {d : Nat} {laid : List (String × DataW Unit)}
  (own : ownKnob C.prog.godebug = none) (started : os.Started) (noInit : C.prog.inits.idxOf? f = none) (hfn : C.prog.funcs[f]? = some fn)
  (witness : ∃ (w : World) (tape : Tape) (i : Input), w.os = os ∧ (w.forCall tape i).Shaped C.prog ∧ i.vars = [] ∧ Input.okWide C.prog (w.forCall tape i) .any w.heap.size f i ∧
   ((s.pre enc C.prog fn conds false (w.forCall tape i).memory i.args ∧ laidMetH C.prog laid (w.forCall tape i).memory) ∧ sizedMet enc C.prog fn (OpenSpec.ofChange s) false (w.forCall tape i).memory i.args) ∧ ({} : Assume).holds C.prog (lone (Frame.enter C.prog f i.args .normal) [] (w.forCall tape i)))
  (hv : s.vars = []) (hs : ∀ ds : List (DataW H), ds.length = fn.params.toList.length → s.fn H (ds ++ []) = { results := [.lit (.bool true)], args := ds })
  (hres : fn.resultTypes = #[tb]) (htb : C.prog.underlying tb = some .bool) (hl : laidOutB C.prog = true)
  (hread : (fn.params.toList.all fun t => C.prog.readableRec t && decide (t < C.prog.types.size)) = true) (hplain : (fn.params.toList.all (Hl C.prog d)) = true)
  (law : ∀ Ds, HP C.prog d fn.params.toList Ds → Aq C.prog f Ds [] (.e (.one (.pure (.val (.bool true))))))
  (hp : (laid.all fun x => x.2.handleName?.isNone) = true) (hgk : ∀ W, laidMet C.prog laid W → Se C.prog W (Pk W)) :
  ReturnsInHanded {} C os f .any (fun w args => (s.pre enc C.prog fn conds false w args ∧ laidMetH C.prog laid w) ∧ sizedMet enc C.prog fn (OpenSpec.ofChange s) false w args) (s.post enc C.prog fn false true false false) := by
 refine returnsInHanded_of_change_and (X := fun w _ => laidMetH C.prog laid w) (fun _ _ _ hh h => by rw [MakeChecks.laidMetH_plain _ _ _ hp] at h ⊢; exact h.of_heap hh) own started noInit hfn witness ?_
 intro W base args ds gs before hval hW _ _ hL _
 rw [MakeChecks.laidMetH_plain _ _ _ hp] at hL
 have hW' := hW
 obtain ⟨p, q, hA, hV, rfl, _, _⟩ := hW
 rw [hv] at hV
 obtain ⟨rfl, rfl⟩ := trodVars_none hV
 obtain ⟨Ds, h1, h2, h3, h4⟩ := PX hplain (fun j t v hj hvj => hval j t v (by simpa using hj) (by simpa using hvj)) hA
 have hlt : ∀ x ∈ p, x.block < W.heap.size := fun x hx => hW'.lt x (by simp [hx])
 refine (law Ds h1 W (Pk W) args (fun β h => h) (hgk W hL) (by simpa using h2) ?_).mono ?_
 ·intro j x hj
  obtain ⟨v, g1, g2⟩ := h4 j x hj
  have : Au args j = v := by unfold Au; rw [show args[j]? = some v from by simpa using g1]; rfl
  rw [this]; exact g2
 ·rintro e W' ⟨v, G', rfl, hb, _, _, hr, _⟩
  have hvb : v = .bool true := by
   have h5 : Ci W' G'.S v (.val (.bool true)) := hr
   cases h5; rfl
  subst hvb
  refine ⟨_, rfl, ds, [], p ++ [], [], p, [], hW', ?_, ?_, ?_, hb.frame _, fun h => by cases h⟩
  ·rw [hs ds h3, hres]
   exact trodAll_mk1 (shut_bool htb true)
  ·rw [hs ds h3]
   exact I7 hl hb.toBelow hread hA hlt
  ·rw [hs ds h3, hv]
   rfl
end Go.Lift
namespace Go.Lift
open Go.RowKit Go.Shelf
def MG (n : Int) : Option ByteArray := if -9223372036854775808 ≤ n ∧ n ≤ 9223372036854775807 then some ⟨(Lib.itoa n).toArray⟩ else none
theorem Uf {P : Program} {ρ : Ren} (L : Go.Proofs.LaysM.n171 P ρ) {g : Nat} (hg : P.globalNamed "internal/strconv.uint64pow10" = some g) {n : Int} {r : ByteArray} (h : MG n = some r) :
  Aq P (ρ.f 171) [.e (.one (.pure (.val (.int .i64 n))))] [] (.e (.one (.pure (.val (.string r))))) := by
 intro w S vs hS hgk hlen hrd
 have h0 : Ci w S (Au vs 0) (.val (.int .i64 n)) := hrd 0 _ rfl
 have hv : Au vs 0 = .int .i64 n := CH h0
 have hvs : vs = #[.int .i64 n] := by
  have h2 : vs.size = 1 := hlen
  apply Array.ext (by simp [h2])
  intro i h1 _
  match i, h1 with
  | 0, h1 => rw [← hv]; simp [Au, h1]
  | i + 1, h1 => omega
 unfold MG at h
 split at h
 ·rename_i hb
  cases h
  have ht : Lib.TabIs P w "internal/strconv.uint64pow10" .u64 Lib.pow10Tab := (hgk ("internal/strconv.uint64pow10", .u64, SA) (by simp [Sj]) g hg).2
  rw [hvs]
  refine (Go.Proofs.Any.strconv_Itoa L n hb.1 hb.2 w ht).mono ?_
  rintro e w' ⟨rfl, k, os, rfl⟩
  refine ⟨_, G0 S, rfl, ⟨⟨rfl, rfl, rfl, by simp [Go.Sort.grow], fun i hi => ?_⟩, .of (by show w.drawn ≤ w.drawn + k; omega)⟩, fun _ h => h, fun _ h => .inl h, .val _ rfl, fun i x hi => by simp at hi, fun i β hi => by simp at hi, fun i l β hi => by simp at hi⟩
  show (w.heap ++ os)[i]? = _
  rw [zF9, if_pos hi]
 ·cases h
end Go.Lift
namespace Go.Lift
open Go.RowKit
variable {P : Program} {X : F6}
end Go.Lift
namespace Go.Lift
open Go.RowKit
variable {P : Program} {X : F6} {ops : Array Oper}
section run
variable {dr : Bool} {Q : St → Prop} {r i : Nat} {st : St} {log : List (Nat × BU)} {o : Oper} {gs : List (Operand × D)}
end run
end Go.Lift
namespace Go.Lift
open Go.RowKit Go.Shelf
end Go.Lift
namespace Go.Lift
open Go.RowKit Go.Shelf
section
variable {P : Program} {ρ : Ren} {α : Type}
end
end Go.Lift
namespace Go.Lift
open Go.RowKit Go.Shelf
variable {P : Program} {X : F6} {ops : Array Oper}
theorem ML {st : St} (s : Nat) (d0 d : D) (hs : st.env s = some d0) (hn : d.names = []) (h : ∀ w G v, FK P w G v d0 → FK P w G v d) : E0 P X st (St.put st (some s) (some d)) := by
 rintro a w ⟨G, hh⟩
 refine ⟨G, { hh with env := ?_, live := ?_, blk := hh.blk, at_ok := hh.at_ok, at_inj := hh.at_inj, liveB := hh.liveB, nlt := hh.nlt, lent := hh.lent }⟩
 ·intro t d' ht
  simp only [St.put] at ht
  split at ht
  ·rename_i e; cases ht; rw [e]
   exact h w G _ (hh.env s _ hs)
  ·exact hh.env t d' ht
 ·intro t d' ht b hb
  simp only [St.put] at ht
  split at ht
  ·cases ht; rw [hn] at hb; cases hb
  ·exact hh.live t d' ht b hb
theorem Nv {st : St} (s : Nat) (ts : List T) (hs : st.env s = some (.e (.one (.rop ts)))) : E0 P X st (St.put st (some s) (some (one (.rp (some ts))))) :=
 ML s _ _ hs rfl fun w G v h => by
  obtain ⟨β, off, arr, el, fz, rfl, h1, h2, h3, h4⟩ : D0 P w G v (.rop ts) := h
  exact Ci.rp β off arr el fz ts h1 h2 h3 h4
theorem R8 {st : St} (s : Nat) (q : Option (List T)) (ts : List T) (hs : st.env s = some (one (.rp q))) (hq : q = some ts) : E0 P X st (St.put st (some s) (some (.e (.one (.rop ts))))) :=
 ML s _ _ hs rfl fun w G v h => by
  subst hq
  have h : Ci w G.S v (.rp (some ts)) := h
  cases h with
  | rp β off arr el fz _ h1 h2 h3 h4 => exact (⟨β, off, arr, el, fz, rfl, h1, h2, h3, h4⟩ : D0 P w G _ (.rop ts))
theorem Ou {P : Program} {ρ : Ren} (L : Go.Proofs.LaysM.n173 P ρ) {g : Nat} (hg : P.globalNamed "internal/strconv.uint64pow10" = some g) {n : Int} {r : ByteArray} (h : MG n = some r) :
  Aq P (ρ.f 173) [.e (.one (.pure (.val (.int .i64 n)))), .e (.one (.pure (.val (.int .i64 10))))] [] (.e (.one (.pure (.val (.string r))))) := by
 intro w S vs hS hgk hlen hrd
 have h0 : Ci w S (Au vs 0) (.val (.int .i64 n)) := hrd 0 _ rfl
 have h1 : Ci w S (Au vs 1) (.val (.int .i64 10)) := hrd 1 _ rfl
 have hv : Au vs 0 = .int .i64 n := CH h0
 have hv1 : Au vs 1 = .int .i64 10 := CH h1
 have hvs : vs = #[.int .i64 n, .int .i64 10] := by
  have h2 : vs.size = 2 := hlen
  apply Array.ext (by simp [h2])
  intro i h1 _
  match i, h1 with
  | 0, h1 => rw [← hv]; simp [Au, h1]
  | 1, h1 => rw [← hv1]; simp [Au, h1]
  | i + 2, h1 => omega
 unfold MG at h
 split at h
 ·rename_i hb
  cases h
  have ht : Lib.TabIs P w "internal/strconv.uint64pow10" .u64 Lib.pow10Tab := (hgk ("internal/strconv.uint64pow10", .u64, SA) (by simp [Sj]) g hg).2
  rw [hvs]
  refine (Go.Proofs.Any.strconv_FormatInt_10 L n hb.1 hb.2 w ht).mono ?_
  rintro e w' ⟨rfl, k, os, rfl⟩
  refine ⟨_, G0 S, rfl, ⟨⟨rfl, rfl, rfl, by simp [Go.Sort.grow], fun i hi => ?_⟩, .of (by show w.drawn ≤ w.drawn + k; omega)⟩, fun _ h => h, fun _ h => .inl h, .val _ rfl, fun i x hi => by simp at hi, fun i β hi => by simp at hi, fun i l β hi => by simp at hi⟩
  show (w.heap ++ os)[i]? = _
  rw [zF9, if_pos hi]
 ·cases h
end Go.Lift
namespace Go.Lift
open Option renaming bind_some → oS
open Go.RowKit Go.Shelf
variable {P : Program} {X : F6} {ops : Array Oper} {dr : Bool} {Q : St → Prop} {r i : Nat} {st : St} {log : List (Nat × BU)} {gs : List (Operand × D)}
theorem Od {x : Operand} {s : Nat} {ts : List T} (hat : At st.env ops i X.n (.nilCheck x) s gs) (hx : opd st.env x = some (.e (.one (.rop ts))))
  (next : A1 P X ops dr Q r (i + 1) (BU.upd ⟨gs ++ [(x, .e (.one (.rop ts)))], [], some s, some (.e (.one (.rop ts))), [], []⟩ st) ((i, ⟨gs ++ [(x, .e (.one (.rop ts)))], [], some s, some (.e (.one (.rop ts))), [], []⟩) :: log)) : A1 P X ops dr Q (r + 1) i st log := by
 obtain ⟨o, ho, hop, hd, hn, hg, hgp⟩ := hat.out
 refine A1.step next ⟨Aj.2 ⟨hgp, hx, trivial⟩, trivial, trivial⟩ (LR.value ho hg rfl hd.symm (CM hd hn) ?_)
 intro G st a w hs hpre
 obtain ⟨hx, _⟩ := (Aj.1 hpre.r).2
 obtain ⟨β, k, arr, el, fz, hv, h1⟩ : D0 P w G (a.eval x) (.rop ts) := hs.opd hx
 refine ⟨.pointer (some ⟨β, k, none⟩), w, G, ?_, hs, ?_⟩
 ·simp only [execOp, hop, hv]; rfl
 ·rintro d ⟨⟩
  exact ⟨⟨β, k, arr, el, fz, rfl, h1⟩, fun b hb => by cases hb⟩
def R1 (P : Program) (t n el : Nat) : Bool := match P.underlying t with | some (.array m e) => m == n && e == el | _ => false
theorem PA {t n el : Nat} (h : R1 P t n el = true) : P.underlying t = some (.array n el) := by
 unfold R1 at h
 split at h
 ·rename_i m e hu
  simp only [uT, beq_iff_eq] at h
  rw [hu, h.1, h.2]
 ·cases h
theorem Ra {t n el e : Nat} {s : Nat} {z : Value} {zs : List Value} {cells : List C} {parts : Array (Nat × Operand)} (ps : List (Nat × Operand × E)) (hat : At st.env ops i X.n (.build t parts) s gs) (hps : parts = (ps.map fun p => (p.1, p.2.1)).toArray)
  (hx : DL st.env (FF ps)) (hz : Dm P t = some z) (hzs : z.cells.toList = zs) (h1 : zs.all FM = true) (ha : R1 P t n el = true) (he : FZ P el e = true) (hf : I8 (fun i => some (i * e, e)) (zs.map fun v => C.pure (T.of v)) (ps.map fun p => (p.1, p.2.2)) = some cells)
  (next : A1 P X ops dr Q r (i + 1) (BU.upd ⟨gs ++ FF ps, [], some s, some (.e (.agg cells)), [], []⟩ st) ((i, ⟨gs ++ FF ps, [], some s, some (.e (.agg cells)), [], []⟩) :: log)) : A1 P X ops dr Q (r + 1) i st log := by
 obtain ⟨o, ho, hop, hd, hn, hg, hgp⟩ := hat.out
 refine A1.step next ⟨Aj.2 ⟨hgp, hx⟩, trivial, trivial⟩ (LR.value ho hg rfl hd.symm (CM hd hn) ?_)
 intro G st a w hs hpre
 have hx := (Aj.1 hpre.r).2
 subst hzs
 have hpr := HT hs hx
 obtain ⟨arr', r1, r2, r3⟩ := Ke (P := P) (w := w) (G := G) (fun i => some (i * e, e)) (ps.map fun p => (p.1, p.2.2)) (ps.map fun p => (p.1, a.eval p.2.1)) _ cells z.cells (by simp) (fun j c hj => LU h1 j c hj) (by simp) (fun j p v hp hv => ⟨(hpr j p v hp hv).1, (hpr j p v hp hv).2.1⟩) hf
 refine ⟨.agg arr', w, G, ?_, hs, ?_⟩
 ·simp only [execOp, hop, hps, Iz]
  refine Ag (run_build w t _ arr' ?_) rfl
  unfold Dm at hz
  cases hit : P.info? t with
  | none => rw [hit] at hz; cases hz
  | some it =>
   rw [hit] at hz
   simp only [oS] at hz
   unfold FZ at he
   cases hie : P.info? el with
   | none => rw [hie] at he; cases he
   | some ie =>
    rw [hie] at he
    have he' : ie.size = e := by simpa using he
    unfold Program.built
    rw [hit, PA ha]
    simp only [hz, hie, he']
    simpa using r1
 ·rintro d ⟨⟩
  refine ⟨⟨arr', rfl, r2, r3⟩, fun b hb => ?_⟩
  rcases Ig _ hf hb with h | ⟨p, h2, h3⟩
  ·rw [Ka] at h; cases h
  ·obtain ⟨j, hj⟩ := vI.1 h2
   have hlt := AA hj
   simp only [vO] at hlt
   exact (hpr j p ((ps.map fun p => (p.1, a.eval p.2.1))[j]'(by simpa using hlt)) hj (by simp [hlt])).2.2 b h3
theorem RE {x y : Operand} {s n el t : Nat} {ts : List T} {u : T} {k : IntKind} {m : Int} (hat : At st.env ops i X.n (.indexAddr t x y) s gs)
  (hx : opd st.env x = some (.e (.one (.rop ts)))) (hy : opd st.env y = some (vD (.int k m))) (ht : R1 P t n el = true) (hz : FZ P el 1 = true) (hl : ts.length = n) (h0 : 0 ≤ m) (hu : ts[m.toNat]? = some u)
  (next : A1 P X ops dr Q r (i + 1) (BU.upd ⟨gs ++ [(x, .e (.one (.rop ts))), (y, vD (.int k m))], [], some s, some (.e (.one (.rop [u]))), [], []⟩ st) ((i, ⟨gs ++ [(x, .e (.one (.rop ts))), (y, vD (.int k m))], [], some s, some (.e (.one (.rop [u]))), [], []⟩) :: log)) : A1 P X ops dr Q (r + 1) i st log := by
 obtain ⟨o, ho, hop, hd, hn, hg, hgp⟩ := hat.out
 refine A1.step next ⟨Aj.2 ⟨hgp, hx, hy, trivial⟩, trivial, trivial⟩ (LR.value ho hg rfl hd.symm (CM hd hn) ?_)
 intro G st a w hs hpre
 obtain ⟨hx, hy, _⟩ := (Aj.1 hpre.r).2
 obtain ⟨β, off, arr, el', fz, hv, h1, h2, h3, h4⟩ : D0 P w G (a.eval x) (.rop ts) := hs.opd hx
 have hY : a.eval y = .int k m := CH (hs.opd hy : Ci w G.S (a.eval y) (.val _))
 have hlt := AA hu
 refine ⟨.pointer (some ⟨β, off + m.toNat * 1, none⟩), w, G, ?_, hs, ?_⟩
 ·simp only [execOp, hop, hv, hY]
  refine Ag (a := .pointer (some ⟨β, off + m.toNat * 1, none⟩)) (w1 := w) ?_ rfl
  unfold Instr.indexAt
  refine Ag (a := (k, m)) (w1 := w) rfl ?_
  refine Ag (AC (PA ht) w) ?_
  have hb : 0 ≤ m ∧ m < (n : Int) := ⟨h0, by omega⟩
  refine Ag (a := ⟨β, off, none⟩) (w1 := w) rfl ?_
  refine Ag (a := ((some ⟨β, off, none⟩ : Option Addr), n, el)) (w1 := w) rfl ?_
  refine Ag (AC (PA ht) w) ?_
  simp only [hb, and_self, if_true]
  refine Ag (DG hz w) ?_
  rw [Addr.add_mk]; rfl
 ·rintro d ⟨⟩
  refine ⟨⟨β, off + m.toNat * 1, arr, el', fz, rfl, h1, h2, by simp; omega, fun j u' hj => ?_⟩, fun b hb => by cases hb⟩
  cases j with
  | zero =>
   cases hj
   have := h4 _ u hu
   simpa using this
  | succ j => simp at hj
theorem O6 {t : Nat} (h : KB P t = true) : P.underlying t = some .string := by
 unfold KB at h
 split at h
 ·assumption
 ·cases h
theorem J7 {x : Operand} {b : ByteArray} {s t : Nat} (hat : At st.env ops i X.n (.call ⟨.builtin .len, #[x], #[t]⟩) s gs)
  (hx : opd st.env x = some (vD (.string b))) (ht : KB P t = true)
  (next : A1 P X ops dr Q r (i + 1) (BU.upd ⟨gs ++ [(x, vD (.string b))], [], some s, some (vD (.int .i64 (b.size : Int))), [], []⟩ st) ((i, ⟨gs ++ [(x, vD (.string b))], [], some s, some (vD (.int .i64 (b.size : Int))), [], []⟩) :: log)) : A1 P X ops dr Q (r + 1) i st log := by
 obtain ⟨o, ho, hop, hd, hn, hg, hgp⟩ := hat.out
 refine A1.step next ⟨Aj.2 ⟨hgp, hx, trivial⟩, trivial, trivial⟩ (LR.value ho hg rfl hd.symm (CM hd hn) ?_)
 intro G st a w hs hpre
 obtain ⟨hx, _⟩ := (Aj.1 hpre.r).2
 have hX : a.eval x = .string b := CH (hs.opd hx : Ci w G.S (a.eval x) (.val _))
 refine ⟨.int .i64 b.size, w, G, ?_, hs, ?_⟩
 ·simp only [execOp, hop]
  refine F7 fun cs => ?_
  simp only [zD7, vU, zF1, builtin, hX]
  refine Ag (a := .int .i64 b.size) (w1 := w) ?_ rfl
  unfold Builtin.len_
  refine Ag (AC (O6 ht) w) ?_
  rfl
 ·rintro d ⟨⟩
  exact ⟨.val _ rfl, fun b hb => by cases hb⟩
theorem J8 {G : Gh} {st : St} {a : Act} {w : World} (hs : Cp P X G st a w) {lo hi : Option Operand} {l h len : Nat} {rl rh : List (Operand × D)} (hlo : OZ lo 0 l rl) (hhi : OZ hi len h rh) (h1 : DL st.env rl) (h2 : DL st.env rh) (hlh : l ≤ h) (hhc : h ≤ len) :
  (Instr.sliceBounds false len len (lo.map a.eval) (hi.map a.eval) none).run P w = .ok (l, h, len) w := by
 unfold Instr.sliceBounds
 refine Ag (a := len) (w1 := w) rfl ?_
 have low : ∀ (h : Nat), l ≤ h → ((match lo.map a.eval with
      | some v => do
       let l ← Instr.sliceBound v h (if (none : Option Value).isSome = true then BoundsCode.slice3C else BoundsCode.sliceB)
       pure (l, h, len)
      | none => do
       let l ← pure 0
       pure (l, h, len) : Sem (Nat × Nat × Nat))).run P w = .ok (l, h, len) w := fun h hlh => by
  cases hlo with
  | none => rfl
  | some y d k v hv =>
   have : a.eval y = .int k v := CH (hs.opd h1.1 : Ci w G.S (a.eval y) (.val _))
   simp only [zB3, this]
   exact Ag (FB hv hlh w) rfl
 cases hhi with
 | none => exact Ag (w1 := w) rfl (low _ hlh)
 | some y d k v hv =>
  have : a.eval y = .int k v := CH (hs.opd h2.1 : Ci w G.S (a.eval y) (.val _))
  simp only [zB3, this]
  exact Ag (FB hv hhc w) (low _ hlh)
theorem OS {x : Operand} {t s l h : Nat} {lo hi : Option Operand} {rl rh : List (Operand × D)} {b : ByteArray} (hat : At st.env ops i X.n (.slice t x lo hi none) s gs)
  (hx : opd st.env x = some (vD (.string b))) (ht : KB P t = true) (hlo : OZ lo 0 l rl) (hhi : OZ hi b.size h rh) (h1 : DL st.env rl) (h2 : DL st.env rh) (hlh : l ≤ h) (hhl : h ≤ b.size)
  (next : A1 P X ops dr Q r (i + 1) (BU.upd ⟨gs ++ ((x, vD (.string b)) :: (rl ++ rh)), [], some s, some (vD (.string (b.extract l h))), [], []⟩ st) ((i, ⟨gs ++ ((x, vD (.string b)) :: (rl ++ rh)), [], some s, some (vD (.string (b.extract l h))), [], []⟩) :: log)) : A1 P X ops dr Q (r + 1) i st log := by
 obtain ⟨o, ho, hop, hd, hn, hg, hgp⟩ := hat.out
 refine A1.step next ⟨Aj.2 ⟨hgp, hx, Aj.2 ⟨h1, h2⟩⟩, trivial, trivial⟩ (LR.value ho hg rfl hd.symm (CM hd hn) ?_)
 intro G st a w hs hpre
 obtain ⟨hx, h12⟩ := (Aj.1 hpre.r).2
 obtain ⟨h1, h2⟩ := Aj.1 h12
 have hX : a.eval x = .string b := CH (hs.opd hx : Ci w G.S (a.eval x) (.val _))
 refine ⟨.string (b.extract l h), w, G, ?_, hs, ?_⟩
 ·simp only [execOp, hop, hX]
  refine Ag (a := .string (b.extract l h)) (w1 := w) ?_ rfl
  unfold Instr.sliceAt
  refine Ag (AC (O6 ht) w) ?_
  unfold Instr.slice
  refine Ag (AC (O6 ht) w) ?_
  refine Ag (J8 hs hlo hhi h1 h2 hlh hhl) ?_
  rfl
 ·rintro d ⟨⟩
  exact ⟨.val _ rfl, fun b hb => by cases hb⟩
end Go.Lift
namespace Go.Lift
open Go.RowKit Go.Proofs
theorem PU {w : World} {b : Nat} {o : Obj} (h : w.heap[b]? = some o) : b < w.heap.size := (zF0.1 h).1
theorem Rc {T e : TypeId} {B b : Nat} {bs : List Value} {w w' : World} (h : Lib.IsBuilder T e B b bs w) (hb : Below w.heap.size w w') : Lib.IsBuilder T e B b bs w' := by
 have key : ∀ p, Lib.BuilderAt T e B b p bs w → Lib.BuilderAt T e B b p bs w' := by
  rintro p ⟨h1, v, h2, ⟨h3, h4⟩, h5⟩
  refine ⟨h1, v, by rw [hb.block b (PU h2)]; exact h2, ⟨h3, ?_⟩, h5⟩
  rcases h4 with h4 | ⟨g, cap, cur, k1, k2, k3, k4⟩
  ·exact .inl h4
  ·exact .inr ⟨g, cap, cur, k1, k2, by rw [hb.block g (PU k3)]; exact k3, k4⟩
 exact h.imp (key _) (key _)
end Go.Lift
namespace Go.Lift
open Go.RowKit
variable {P : Program}
theorem CU.drop {w : World} {S : Nat → Prop} {arr : Array Value} {e n : Nat} {rows : List (List T)} (h : CU w S arr e 0 rows) (hn : n ≤ rows.length) : CU w S arr e (n * e) (rows.drop n) := by
 obtain ⟨h1, h2, h3⟩ := h
 refine ⟨?_, fun i row hi => ?_, fun i row j t hi hj => ?_⟩
 ·rw [List.length_drop, ← zA6]
  rw [uZ] at h1
  exact zE3 (uV e (by omega)) h1
 ·rw [zA5] at hi
  exact h2 _ row hi
 ·rw [zA5] at hi
  have := h3 _ row j t hi hj
  rwa [uZ, zA6] at this
end Go.Lift
namespace Go.Lift
open Go.RowKit
variable {P : Program}
end Go.Lift
namespace Go.Lift
def As (n : Int) : List T := [.val (.int .i64 n)]
def Dw (n : Int) : List T := [.val (.int .u8 n)]
abbrev FO (n : Int) : T := .val (.int .i64 n)
abbrev tB (b : Bool) : T := .val (.bool b)
def eB (b : Bool) : List T := [.val (.bool b)]
def eS (s : ByteArray) : List T := [.val (.string s)]
def KV {α : Type} (f : α → List T) (xs : List α) : List T := [.sl (xs.map f)]
theorem Q1 : US As := ⟨by intro x y h; simpa [As] using h⟩
theorem WK : US eB := ⟨by intro x y h; simpa [eB] using h⟩
theorem Vf {α : Type} {f : α → List T} (h : US f) : US (KV f) := ⟨by intro x y hx; simp only [KV, List.cons.injEq, T.sl.injEq, and_true] at hx; exact P9 h.inj _ _ hx⟩
structure AG where
 fa : Int
 fj : Int
 fB : Int
 fQ : Bool
 fD : List (List Bool)
 fu : List (List Bool)
def Bv (x : AG) : List T := [.val (.int .i64 x.fa), .val (.int .i64 x.fj), .val (.int .i64 x.fB), .val (.bool x.fQ), .sl (x.fD.map (KV eB)), .sl (x.fu.map (KV eB))]
structure Aa where
 fb : List Int
 fk : List Int
 fp : List Int
 fd : List AG
def Oc (x : Aa) : List T := [.sl (x.fb.map As), .sl (x.fk.map As), .sl (x.fp.map As), .sl (x.fd.map Bv)]
structure Am where
 fa : Int
 fm : Int
 fq : Int
def AM (x : Am) : List T := [.val (.int .i64 x.fa), .val (.int .i64 x.fm), .val (.int .i64 x.fq)]
theorem O9 : US AM := ⟨by
 rintro ⟨a1, a2, a3⟩ ⟨b1, b2, b3⟩ h
 simp only [AM, List.cons.injEq, T.val.injEq, Value.int.injEq, and_true, true_and] at h
 obtain ⟨h1, h2, h3⟩ := h
 subst h1
 subst h2
 subst h3
 rfl⟩
structure Ab where
 fi : Int
 fa : Int
 fy : Int
 fA : Int
 fF : Int
 fm : Int
 fv : Int
 fJ : Int
 ft : Int
 fq : Int
 fK : Int
def AJ (x : Ab) : List T := [.val (.int .i64 x.fi), .val (.int .i64 x.fa), .val (.int .i64 x.fy), .val (.int .i64 x.fA), .val (.int .i64 x.fF), .val (.int .i64 x.fm), .val (.int .i64 x.fv), .val (.int .i64 x.fJ), .val (.int .i64 x.ft), .val (.int .i64 x.fq), .val (.int .i64 x.fK)]
structure BK where
 fc : Aa
 fM : List Int
 fr : List Am
 fC : List Ab
def KM (x : BK) : List T := [.sl (x.fc.fb.map As), .sl (x.fc.fk.map As), .sl (x.fc.fp.map As), .sl (x.fc.fd.map Bv), .sl (x.fM.map As), .sl (x.fr.map AM), .sl (x.fC.map AJ)]
structure Ad where
 fh : List Int
 fe : List Int
 ff : List Int
def EF (x : Ad) : List T := [.sl (x.fh.map As), .sl (x.fe.map As), .sl (x.ff.map Dw)]
structure Ah where
 fc : Aa
 fr : List Am
 fi : Int
 fw : Int
 fg : Ad
def EH (x : Ah) : List T := [.sl (x.fc.fb.map As), .sl (x.fc.fk.map As), .sl (x.fc.fp.map As), .sl (x.fc.fd.map Bv), .sl (x.fr.map AM), .val (.int .i64 x.fi), .val (.int .i64 x.fw), .sl (x.fg.fh.map As), .sl (x.fg.fe.map As), .sl (x.fg.ff.map Dw)]
structure A2 where
 fE : Int
 fG : Int
 fH : Bool
 fI : List (Int × Int)
structure Ii where
 fi : Int
 fN : Bool
 fO : Bool
 fg : Ad
open IntKind renaming wrap → wI
def CR (_ : Nat) (p0 : Int) (p1 : Int) : Option Bool :=
 A7 (fun (v1 : Bool) =>
  some v1)
 fun j1 =>
 AI ((decide (0 ≤ p0)))
  (j1 (decide (p0 < p1)))
  (j1 false)
def E3 (_ : Nat) (p0 : Int) (p1 : Bool) : Option Bool :=
 A7 (fun (v1 : Bool) =>
  some v1)
 fun j1 =>
 AI ((p0 == 1))
  (j1 true)
  (AI ((p0 == 2))
   (j1 true)
   (AI ((p0 == 3))
    (j1 (!p1))
    (AI ((p0 == 4))
     (j1 (!p1))
     (j1 false))))
def CN (_ : Nat) (p0 : List Bool) (p1 : Int) : Option Bool :=
 some (((p0.length : Int) != p1))
def A0 (N : Nat) (p0 : List (List Bool)) (p1 : (List Bool) → Option Bool) (j1 : Unit → Option Int) : Nat → Int → Option Int
 | 0, _ => none
 | n1 + 1, v1 =>
  AI ((decide (v1 < (p0.length : Int))))
   ((Bl p0 v1).bind fun v4 =>
   (p1 v4).bind fun v5 =>
   AI v5
    (some v1)
    (A0 N p0 p1 j1 n1 (wI .i64 (v1 + 1))))
   (j1 ())
def Ch (N : Nat) (p0 : List (List Bool)) (p1 : (List Bool) → Option Bool) : Option Int :=
 A0 N p0 p1 (fun (_ : Unit) =>
  some ((-1))) N 0
def BY (N : Nat) (p0 : List (List Bool)) (p1 : (List Bool) → Option Bool) : Option Bool :=
 (Ch N p0 p1).bind fun v1 =>
 some ((decide (0 ≤ v1)))
def DO (N : Nat) (p0 : List (List Bool)) (p1 : Int) (p2 : Int) : Option Bool :=
 A7 (fun (v1 : Bool) =>
  some v1)
 fun j1 =>
 AI (((p0.length : Int) == p1))
  ((BY N p0 ((fun (x : List Bool) => CN N x p2))).bind fun v3 =>
  j1 (!v3))
  (j1 false)
def B5 (N : Nat) (p1 : AG) (j19 : Unit → Option Int) : Nat → Int → Option Int
 | 0, _ => none
 | n19 + 1, v19 =>
  AI ((decide (v19 < (p1.fu.length : Int))))
   ((Bl p1.fu v19).bind fun v22 =>
   (Bl v22 v19).bind fun v23 =>
   AI ((!v23))
    (some 1)
    (B5 N p1 j19 n19 (wI .i64 (v19 + 1))))
   (j19 ())
def EQ (N : Nat) (p0 : Aa) (p1 : AG) : Option Int :=
 (E3 N p1.fa p1.fQ).bind fun v1 =>
 AI ((!v1))
  (some 1)
  (A7 (fun (v3 : Bool) =>
   AI v3
    (some 4)
    ((Bl p0.fb p1.fj).bind fun v8 =>
    A7 (fun (v9 : Bool) =>
     AI v9
      (some 6)
      (B5 N p1 (fun (_ : Unit) =>
       some 0) N 0))
    fun j9 =>
    (Bl p0.fb p1.fB).bind fun v10 =>
    (DO N p1.fD v8 v10).bind fun v11 =>
    AI ((!v11))
     (j9 true)
     (AI ((p1.fa == 4))
      ((DO N p1.fu v8 v8).bind fun v14 =>
      AI ((!v14))
       (j9 true)
       (AI ((!((p1.fa == 4))))
        (j9 (decide (0 < (p1.fu.length : Int))))
        (j9 false)))
      (AI ((!((p1.fa == 4))))
       (j9 (decide (0 < (p1.fu.length : Int))))
       (j9 false)))))
  fun j3 =>
  (CR N p1.fj ((p0.fb.length : Int))).bind fun v4 =>
  AI ((!v4))
   (j3 true)
   ((CR N p1.fB ((p0.fb.length : Int))).bind fun v6 =>
   j3 (!v6)))
def Bp (N : Nat) (p0 : Aa) (j7 : Unit → Option Int) : Nat → Int → Option Int
 | 0, _ => none
 | n7 + 1, v7 =>
  AI ((decide (v7 < (p0.fb.length : Int))))
   ((Bl p0.fb v7).bind fun v10 =>
   A7 (fun (v11 : Bool) =>
    AI v11
     (some 7)
     (Bp N p0 j7 n7 (wI .i64 (v7 + 1))))
   fun j11 =>
   AI ((decide (v10 < 1)))
    (j11 true)
    (AI ((decide (6 < v10)))
     (j11 true)
     ((Bl p0.fk v7).bind fun v14 =>
     (CR N v14 v10).bind fun v15 =>
     AI ((!v15))
      (j11 true)
      ((Bl p0.fp v7).bind fun v17 =>
      (CR N v17 v10).bind fun v18 =>
      j11 (!v18)))))
   (j7 ())
def Bg (N : Nat) (p0 : Aa) (j20 : Unit → Option Int) : Nat → Int → Option Int
 | 0, _ => none
 | n20 + 1, v20 =>
  AI ((decide (v20 < (p0.fd.length : Int))))
   ((Bl p0.fd v20).bind fun v23 =>
   (EQ N p0 v23).bind fun v24 =>
   AI ((v24 != 0))
    (some v24)
    (Bg N p0 j20 n20 (wI .i64 (v20 + 1))))
   (j20 ())
def BI (N : Nat) (p0 : Aa) : Option Int :=
 A7 (fun (v1 : Bool) =>
  AI v1
   (some 3)
   (A7 (fun (v4 : Bool) =>
    AI v4
     (some 6)
     (Bp N p0 (fun (_ : Unit) =>
      Bg N p0 (fun (_ : Unit) =>
       some 0) N 0) N 0))
   fun j4 =>
   AI (((p0.fk.length : Int) != (p0.fb.length : Int)))
    (j4 true)
    (j4 ((p0.fp.length : Int) != (p0.fb.length : Int)))))
 fun j1 =>
 AI ((decide (6 < (p0.fb.length : Int))))
  (j1 true)
  (j1 (decide (12 < (p0.fd.length : Int))))
def AV (N : Nat) (p0 : List Int) (p1 : Int → Option Bool) (j1 : Unit → Option Int) : Nat → Int → Option Int
 | 0, _ => none
 | n1 + 1, v1 =>
  AI ((decide (v1 < (p0.length : Int))))
   ((Bl p0 v1).bind fun v4 =>
   (p1 v4).bind fun v5 =>
   AI v5
    (some v1)
    (AV N p0 p1 j1 n1 (wI .i64 (v1 + 1))))
   (j1 ())
def CF (N : Nat) (p0 : List Int) (p1 : Int → Option Bool) : Option Int :=
 AV N p0 p1 (fun (_ : Unit) =>
  some ((-1))) N 0
def BJ (N : Nat) (p0 : List Int) (p1 : Int → Option Bool) : Option Bool :=
 (CF N p0 p1).bind fun v1 =>
 some ((decide (0 ≤ v1)))
def DI (_ : Nat) (p0 : Int) : Option Bool :=
 A7 (fun (v1 : Bool) =>
  some v1)
 fun j1 =>
 AI ((decide (p0 < 1)))
  (j1 true)
  (j1 (decide (4 < p0)))
def D9 (N : Nat) (p0 : Aa) (p1 : List Int) : Option Int :=
 AI (((p1.length : Int) != (p0.fb.length : Int)))
  (some 6)
  ((BJ N p1 ((fun (x : Int) => DI N x))).bind fun v2 =>
  AI v2
   (some 7)
   (some 0))
def AL (N : Nat) (p0 : List Am) (p1 : Am → Option Bool) (j1 : Unit → Option Int) : Nat → Int → Option Int
 | 0, _ => none
 | n1 + 1, v1 =>
  AI ((decide (v1 < (p0.length : Int))))
   ((Bl p0 v1).bind fun v4 =>
   (p1 v4).bind fun v5 =>
   AI v5
    (some v1)
    (AL N p0 p1 j1 n1 (wI .i64 (v1 + 1))))
   (j1 ())
def Bf (N : Nat) (p0 : List Am) (p1 : Am → Option Bool) : Option Int :=
 AL N p0 p1 (fun (_ : Unit) =>
  some ((-1))) N 0
def A6 (N : Nat) (p0 : List Am) (p1 : Am → Option Bool) : Option Bool :=
 (Bf N p0 p1).bind fun v1 =>
 some ((decide (0 ≤ v1)))
def Da (_ : Nat) (p0 : Am) : Option Bool :=
 some ((p0.fa == 4))
def BM (_ : Nat) (p0 : List Int) : Option ((List Int)) :=
 (ER ((([] : List Int)).length + p0.length ≤ GZ)).bind fun _ =>
 some ((([] : List Int)) ++ p0)
def Ff (_ : Nat) (p0 : Int) (p1 : Int) : Option (Int × Int) :=
 some ((wI .u32 ((Fp .u64 ((wI .u64 ((wI .u64 p0) * (wI .u64 p1)))) 32))), (wI .u32 ((wI .u64 ((wI .u64 p0) * (wI .u64 p1))))))
def Fg (_ : Nat) (p0 : Int) (p1 : Int) : Option (Int × Int) :=
 some ((wI .u64 ((wI .u64 ((wI .u64 ((Fp .u64 p0 32) * (Fp .u64 p1 32))) + (Fp .u64 ((wI .u64 ((wI .u64 ((Fp .u64 p0 32) * (Fi .u64 p1 4294967295))) + (Fp .u64 ((wI .u64 ((Fi .u64 p0 4294967295) * (Fi .u64 p1 4294967295)))) 32)))) 32))) + (Fp .u64 ((wI .u64 ((Fi .u64 ((wI .u64 ((wI .u64 ((Fp .u64 p0 32) * (Fi .u64 p1 4294967295))) + (Fp .u64 ((wI .u64 ((Fi .u64 p0 4294967295) * (Fi .u64 p1 4294967295)))) 32)))) 4294967295) + (wI .u64 ((Fi .u64 p0 4294967295) * (Fp .u64 p1 32)))))) 32))), (wI .u64 (p0 * p1)))
def FU (N : Nat) (p0 : Int) (p1 : Int) : Option (Int × Int) :=
 AI false
  ((Ff N ((wI .u32 p0)) ((wI .u32 p1))).bind fun v2 =>
  some ((wI .u64 v2.1), (wI .u64 v2.2)))
  ((Fg N p0 p1).bind fun v3 =>
  some (v3.1, v3.2))
def CD (N : Nat) (j9 : ((List Int)) → Option ((List Int))) : Nat → ((List Int) × Int) → Option ((List Int))
 | 0, _ => none
 | n9 + 1, v9 =>
  AI ((decide (v9.2 < (v9.1.length : Int))))
   ((ER ((0 : Int) ≤ v9.2 ∧ (v9.2).toNat ≤ v9.1.length ∧ v9.1.length ≤ v9.1.length)).bind fun _ =>
   (ER ((0 : Int) ≤ v9.2 ∧ 0 ≤ (v9.2).toNat ∧ (v9.2).toNat ≤ v9.1.length)).bind fun _ =>
   CD N j9 n9 (Nn v9.1 ((v9.2).toNat) ((((v9.1.drop 0).take ((v9.2).toNat))).take (zA4 (((v9.1.drop 0).take ((v9.2).toNat))).length ((v9.1.length - (v9.2).toNat)))), (wI .i64 (v9.2 + (((zA4 (((v9.1.drop 0).take ((v9.2).toNat))).length ((v9.1.length - (v9.2).toNat))) : Nat) : Int)))))
   (j9 v9.1)
def C6 (N : Nat) (p0 : List Int) (p1 : Int) : Option ((List Int)) :=
 A7 (fun (_ : Unit) =>
  (FU N ((wI .u64 ((p0.length : Int)))) ((wI .u64 p1))).bind fun v3 =>
  A7 (fun (_ : Unit) =>
   (ER ((0 : Int) ≤ (wI .i64 v3.2) ∧ (wI .i64 v3.2) ≤ (wI .i64 v3.2) ∧ (wI .i64 v3.2) ≤ (GZ : Int))).bind fun _ =>
   CD N (fun (v10 : (List Int)) =>
    some v10) N (Nn (vC ((wI .i64 v3.2)).toNat ((0 : Int))) 0 (p0.take (zA4 p0.length ((vC ((wI .i64 v3.2)).toNat ((0 : Int))).length))), (((zA4 p0.length ((vC ((wI .i64 v3.2)).toNat ((0 : Int))).length)) : Nat) : Int)))
  fun j4 =>
  A7 (fun (v5 : Bool) =>
   AI v5
    (none)
    (j4 ()))
  fun j5 =>
  AI ((decide (0 < v3.1)))
   (j5 true)
   (j5 (decide (9223372036854775807 < v3.2))))
 fun j1 =>
 AI ((decide (p1 < 0)))
  (none)
  (j1 ())
def Ev (_ : Nat) (p0 : AG) : Option Bool :=
 A7 (fun (v1 : Bool) =>
  some v1)
 fun j1 =>
 AI ((p0.fa == 3))
  (j1 true)
  (j1 (p0.fa == 4))
def CO (N : Nat) (p0 : Aa) (j6 : ((List Int)) → Option (Ad × Int)) : Nat → ((List Int) × Int) → Option (Ad × Int)
 | 0, _ => none
 | n6 + 1, v6 =>
  AI ((decide (v6.2 < (p0.fd.length : Int))))
   (A7 (fun (v9 : (List Int)) =>
    CO N p0 j6 n6 (v9, (wI .i64 (v6.2 + 1))))
   fun j9 =>
   (Bl p0.fd v6.2).bind fun v10 =>
   (Ev N v10).bind fun v11 =>
   AI v11
    ((Bl p0.fk v10.fj).bind fun v13 =>
    (ER (0 ≤ v13)).bind fun _ =>
    (Bl v6.1 v6.2).bind fun _ =>
    j9 (v6.1.set ((v6.2).toNat) ((Dk .u8 1 v13))))
    (j9 v6.1))
   (j6 v6.1)
def Fu (N : Nat) (p0 : Aa) : Option (Ad × Int) :=
 (BI N p0).bind fun v1 =>
 AI ((v1 != 0))
  (some ((Ad.mk (([] : List Int)) (([] : List Int)) (([] : List Int))), v1))
  ((BM N p0.fk).bind fun v3 =>
  (C6 N (([(-1)] : List Int)) ((p0.fk.length : Int))).bind fun v4 =>
  (ER ((0 : Int) ≤ (p0.fd.length : Int) ∧ (p0.fd.length : Int) ≤ (p0.fd.length : Int) ∧ (p0.fd.length : Int) ≤ (GZ : Int))).bind fun _ =>
  CO N p0 (fun (v7 : (List Int)) =>
   some ((Ad.mk v3 v4 v7), 0)) N (vC ((p0.fd.length : Int)).toNat ((0 : Int)), 0))
def EN (_ : Nat) (p0 : Ad) (p1 : Int) : Option Int :=
 (Bl p0.fh p1).bind fun v1 =>
 (ER (0 ≤ v1)).bind fun _ =>
 A7 (fun (v3 : Int) =>
  some v3)
 fun j3 =>
 (Bl p0.fe p1).bind fun v4 =>
 AI ((decide (0 ≤ v4)))
  ((Bl p0.fe p1).bind fun v6 =>
  (ER (0 ≤ v6)).bind fun _ =>
  j3 (KL .u8 ((Dk .u8 1 v1)) ((Dk .u8 1 v6))))
  (j3 (Dk .u8 1 v1))
def CS (N : Nat) (p0 : Aa) (p1 : Ad) (j7 : Unit → Option Int) : Nat → Int → Option Int
 | 0, _ => none
 | n7 + 1, v7 =>
  AI ((decide (v7 < (p0.fb.length : Int))))
   ((Bl p0.fb v7).bind fun v10 =>
   A7 (fun (v11 : Bool) =>
    AI v11
     (some 7)
     ((Bl p1.fh v7).bind fun v20 =>
     (Bl p1.fe v7).bind fun v21 =>
     AI ((v20 == v21))
      (some 1)
      (CS N p0 p1 j7 n7 (wI .i64 (v7 + 1)))))
   fun j11 =>
   (Bl p1.fh v7).bind fun v12 =>
   AI ((decide (v12 < 0)))
    (j11 true)
    ((Bl p1.fh v7).bind fun v14 =>
    AI ((decide (v10 ≤ v14)))
     (j11 true)
     ((Bl p1.fe v7).bind fun v16 =>
     AI ((decide (v16 < (-1))))
      (j11 true)
      ((Bl p1.fe v7).bind fun v18 =>
      j11 (decide (v10 ≤ v18))))))
   (j7 ())
def CB (N : Nat) (p0 : Aa) (p1 : Ad) (j23 : Unit → Option Int) : Nat → Int → Option Int
 | 0, _ => none
 | n23 + 1, v23 =>
  AI ((decide (v23 < (p0.fd.length : Int))))
   ((Bl p0.fd v23).bind fun v26 =>
   A7 (fun (v27 : Int × Int) =>
    A7 (fun (v33 : Bool) =>
     AI v33
      (some 1)
      (CB N p0 p1 j23 n23 (wI .i64 (v23 + 1))))
    fun j33 =>
    (Bl p1.ff v23).bind fun v34 =>
    AI (((Cc .u8 v27.1 v34) != 0))
     (j33 true)
     ((Bl p1.ff v23).bind fun v36 =>
     j33 ((Cc .u8 v36 v27.2) != 0)))
   fun j27 =>
   (Ev N v26).bind fun v28 =>
   AI v28
    ((EN N p1 v26.fj).bind fun v30 =>
    (Bl p0.fb v26.fj).bind fun v31 =>
    (ER (0 ≤ v31)).bind fun _ =>
    j27 (v30, (wI .u8 ((Dk .u8 1 v31) - 1))))
    (j27 (0, 0)))
   (j23 ())
def EW (N : Nat) (p0 : Aa) (p1 : Ad) : Option Int :=
 (BI N p0).bind fun v1 =>
 AI ((v1 != 0))
  (some v1)
  (A7 (fun (v3 : Bool) =>
   AI v3
    (some 6)
    (CS N p0 p1 (fun (_ : Unit) =>
     CB N p0 p1 (fun (_ : Unit) =>
      some 0) N 0) N 0))
  fun j3 =>
  AI (((p1.fh.length : Int) != (p0.fb.length : Int)))
   (j3 true)
   (AI (((p1.fe.length : Int) != (p0.fb.length : Int)))
    (j3 true)
    (j3 ((p1.ff.length : Int) != (p0.fd.length : Int)))))
def BH (_ : Nat) (p0 : List Int) : Option ((List Int)) :=
 (ER ((([] : List Int)).length + p0.length ≤ GZ)).bind fun _ =>
 some ((([] : List Int)) ++ p0)
def D7 (N : Nat) (p0 : Ad) : Option Ad :=
 (BM N p0.fh).bind fun v1 =>
 (BM N p0.fe).bind fun v2 =>
 (BH N p0.ff).bind fun v3 =>
 some ((Ad.mk v1 v2 v3))
def E6 (_ : Nat) (p0 : Am) : Option Bool :=
 A7 (fun (v1 : Bool) =>
  AI v1
   (some false)
   (A7 (fun (v5 : Bool) =>
    some v5)
   fun j5 =>
   AI ((p0.fa == 1))
    (j5 true)
    (j5 (p0.fq == 0))))
 fun j1 =>
 AI ((decide ((Rd p0.fm p0.fq) < 0)))
  (j1 true)
  (AI ((decide (p0.fa < 1)))
   (j1 true)
   (j1 (decide (4 < p0.fa))))
def EK (_ : Nat) (p0 : Aa) (p1 : Am) : Option Bool :=
 AI ((p1.fa == 3))
  (some ((decide (p1.fm < (p0.fd.length : Int)))))
  (A7 (fun (v2 : Bool) =>
   some v2)
  fun j2 =>
  AI ((decide (p1.fm < (p0.fb.length : Int))))
   (AI ((p1.fa != 1))
    (j2 true)
    ((Bl p0.fb p1.fm).bind fun v5 =>
    j2 (decide (p1.fq < v5))))
   (j2 false))
def D4 (_ : Nat) (p0 : AG) : Option Bool :=
 A7 (fun (v1 : Bool) =>
  some v1)
 fun j1 =>
 AI ((p0.fa == 3))
  (j1 true)
  (j1 (p0.fa == 4))
def CA (N : Nat) (p0 : Aa) (p2 : Am) (j7 : ((List Int)) → Option (Bool × (List Int) × (List Int))) : Nat → ((List Int) × Int) → Option (Bool × (List Int) × (List Int))
 | 0, _ => none
 | n7 + 1, v7 =>
  AI ((decide (v7.2 < (p0.fd.length : Int))))
   (A7 (fun (v10 : (List Int)) =>
    CA N p0 p2 j7 n7 (v10, (wI .i64 (v7.2 + 1))))
   fun j10 =>
   (Bl p0.fd v7.2).bind fun v11 =>
   A7 (fun (v12 : Bool) =>
    AI v12
     ((Bl v7.1 v7.2).bind fun v16 =>
     (ER (0 ≤ p2.fq)).bind fun _ =>
     (Bl v7.1 v7.2).bind fun _ =>
     j10 (v7.1.set ((v7.2).toNat) ((KL .u8 v16 ((Dk .u8 1 p2.fq))))))
     (j10 v7.1))
   fun j12 =>
   AI ((v11.fj == p2.fm))
    ((D4 N v11).bind fun v14 =>
    j12 v14)
    (j12 false))
   (j7 v7.1)
def F1 (N : Nat) (p0 : Aa) (p1 : Ad) (p2 : Am) : Option (Bool × (List Int) × (List Int)) :=
 A7 (fun (v1 : Bool) =>
  AI v1
   (some (false, p1.fe, p1.ff))
   ((Bl p1.fe p2.fm).bind fun _ =>
   CA N p0 p2 (fun (v8 : (List Int)) =>
    some (true, p1.fe.set ((p2.fm).toNat) p2.fq, v8)) N (p1.ff, 0)))
 fun j1 =>
 (Bl p1.fe p2.fm).bind fun v2 =>
 AI ((decide (0 ≤ v2)))
  (j1 true)
  ((Bl p1.fh p2.fm).bind fun v4 =>
  j1 (v4 == p2.fq))
def El (_ : Nat) (p0 : Ad) (p1 : Int) : Option Int :=
 (Bl p0.fh p1).bind fun v1 =>
 (ER (0 ≤ v1)).bind fun _ =>
 A7 (fun (v3 : Int) =>
  some v3)
 fun j3 =>
 (Bl p0.fe p1).bind fun v4 =>
 AI ((decide (0 ≤ v4)))
  ((Bl p0.fe p1).bind fun v6 =>
  (ER (0 ≤ v6)).bind fun _ =>
  j3 (KL .u8 ((Dk .u8 1 v1)) ((Dk .u8 1 v6))))
  (j3 (Dk .u8 1 v1))
def BZ (_ : Nat) (p0 : Int) : Option Int :=
 (SX ((⟨⟨(List.append (List.append [8, 0, 1, 0, 2, 0, 1, 0, 3, 0, 1, 0, 2, 0, 1, 0, 4, 0, 1, 0, 2, 0, 1, 0, 3, 0, 1, 0, 2, 0, 1, 0, 5, 0, 1, 0, 2, 0, 1, 0, 3, 0, 1, 0, 2, 0, 1, 0, 4, 0, 1, 0, 2, 0, 1, 0, 3, 0, 1, 0, 2, 0, 1, 0] [6, 0, 1, 0, 2, 0, 1, 0, 3, 0, 1, 0, 2, 0, 1, 0, 4, 0, 1, 0, 2, 0, 1, 0, 3, 0, 1, 0, 2, 0, 1, 0, 5, 0, 1, 0, 2, 0, 1, 0, 3, 0, 1, 0, 2, 0, 1, 0, 4, 0, 1, 0, 2, 0, 1, 0, 3, 0, 1, 0, 2, 0, 1, 0]) (List.append [7, 0, 1, 0, 2, 0, 1, 0, 3, 0, 1, 0, 2, 0, 1, 0, 4, 0, 1, 0, 2, 0, 1, 0, 3, 0, 1, 0, 2, 0, 1, 0, 5, 0, 1, 0, 2, 0, 1, 0, 3, 0, 1, 0, 2, 0, 1, 0, 4, 0, 1, 0, 2, 0, 1, 0, 3, 0, 1, 0, 2, 0, 1, 0] [6, 0, 1, 0, 2, 0, 1, 0, 3, 0, 1, 0, 2, 0, 1, 0, 4, 0, 1, 0, 2, 0, 1, 0, 3, 0, 1, 0, 2, 0, 1, 0, 5, 0, 1, 0, 2, 0, 1, 0, 3, 0, 1, 0, 2, 0, 1, 0, 4, 0, 1, 0, 2, 0, 1, 0, 3, 0, 1, 0, 2, 0, 1, 0]))⟩⟩ : ByteArray)) p0).bind fun v1 =>
 some ((wI .i64 v1))
def Co (N : Nat) (p0 : AG) (p2 : Int) (j1 : Unit → Option Bool) : Nat → Int → Option Bool
 | 0, _ => none
 | n1 + 1, v1 =>
  AI ((v1 != 0))
   ((BZ N v1).bind fun v4 =>
   (Bl p0.fu v4).bind fun v5 =>
   (Bl v5 p2).bind fun v6 =>
   AI ((!v6))
    (some false)
    (Co N p0 p2 j1 n1 (Fi .u8 v1 ((wI .u8 (v1 - 1))))))
   (j1 ())
def Ee (N : Nat) (p0 : AG) (p1 : Int) (p2 : Int) : Option Bool :=
 Co N p0 p2 (fun (_ : Unit) =>
  some true) N p1
def Fa (N : Nat) (p0 : Aa) (p1 : Ad) (p2 : Int) : Option (Bool × (List Int)) :=
 (Bl p0.fd p2).bind fun v1 =>
 (D4 N v1).bind fun v2 =>
 AI ((!v2))
  (some (false, p1.ff))
  ((El N p1 v1.fj).bind fun v4 =>
  (Bl p1.ff p2).bind fun v5 =>
  A7 (fun (v6 : Bool) =>
   AI v6
    (some (false, p1.ff))
    ((Bl p1.ff p2).bind fun _ =>
    some (true, p1.ff.set ((p2).toNat) v4)))
  fun j6 =>
  (Bl p1.ff p2).bind fun v7 =>
  AI ((v7 == v4))
   (j6 true)
   (AI ((v1.fa == 4))
    ((Bl p1.fh v1.fj).bind fun v10 =>
    (Ee N v1 ((Cc .u8 v5 v4)) v10).bind fun v11 =>
    j6 (!v11))
    (j6 false)))
def E2 (N : Nat) (p0 : Aa) (p1 : Ad) (p2 : Am) : Option (Ad × Bool) :=
 (D7 N p1).bind fun v1 =>
 AI ((p2.fa == 1))
  ((F1 N p0 v1 p2).bind fun v3 =>
  some ((Ad.mk v1.fh v3.2.1 v3.2.2), v3.1))
  (AI ((p2.fa == 3))
   ((Fa N p0 v1 p2.fm).bind fun v5 =>
   some ((Ad.mk v1.fh v1.fe v5.2), v5.1))
   ((Bl v1.fe p2.fm).bind fun v6 =>
   AI ((decide (v6 < 0)))
    (some (v1, false))
    ((Bl v1.fe p2.fm).bind fun _ =>
    A7 (fun (v9 : (List Int)) =>
     some ((Ad.mk v9 (v1.fe.set ((p2.fm).toNat) ((-1))) v1.ff), true))
    fun j9 =>
    AI ((p2.fa == 2))
     ((Bl v1.fh p2.fm).bind fun _ =>
     j9 (v1.fh.set ((p2.fm).toNat) v6))
     (j9 v1.fh))))
def Eu (N : Nat) (p0 : Aa) (p1 : Ad) (p2 : Am) : Option (Ad × Int) :=
 (E6 N p2).bind fun v1 =>
 AI ((!v1))
  (some ((Ad.mk (([] : List Int)) (([] : List Int)) (([] : List Int))), 1))
  ((EK N p0 p2).bind fun v3 =>
  AI ((!v3))
   (some ((Ad.mk (([] : List Int)) (([] : List Int)) (([] : List Int))), 4))
   ((E2 N p0 p1 p2).bind fun v5 =>
   AI ((!v5.2))
    (some ((Ad.mk (([] : List Int)) (([] : List Int)) (([] : List Int))), 11))
    (some (v5.1, 0))))
def Ea (N : Nat) (p0 : Aa) (p2 : List Am) (j4 : ((List Ad)) → Option ((List Ad) × Int × Int)) : Nat → ((List Ad) × Int) → Option ((List Ad) × Int × Int)
 | 0, _ => none
 | n4 + 1, v4 =>
  AI ((decide (v4.2 < (p2.length : Int))))
   ((Bl p2 v4.2).bind fun v7 =>
   (Bl v4.1 v4.2).bind fun v8 =>
   (Eu N p0 v8 v7).bind fun v9 =>
   AI ((v9.2 != 0))
    (some (([] : List Ad), v4.2, v9.2))
    ((ER (v4.1.length + (([v9.1] : List Ad)).length ≤ GZ)).bind fun _ =>
    Ea N p0 p2 j4 n4 (v4.1 ++ (([v9.1] : List Ad)), (wI .i64 (v4.2 + 1)))))
   (j4 v4.1)
def Ga (N : Nat) (p0 : Aa) (p1 : Ad) (p2 : List Am) : Option ((List Ad) × Int × Int) :=
 (EW N p0 p1).bind fun v1 =>
 AI ((v1 != 0))
  (some (([] : List Ad), 0, v1))
  ((D7 N p1).bind fun v3 =>
  Ea N p0 p2 (fun (v5 : (List Ad)) =>
   some (v5, (p2.length : Int), 0)) N (([v3] : List Ad), 0))
def C5 (N : Nat) (p0 : Aa) (p1 : List Am) : Option (Ad × Int) :=
 (A6 N p1 ((fun (x : Am) => Da N x))).bind fun v1 =>
 AI v1
  (some ((Ad.mk (([] : List Int)) (([] : List Int)) (([] : List Int))), 1))
  ((Fu N p0).bind fun v3 =>
  AI ((v3.2 != 0))
   (some ((Ad.mk (([] : List Int)) (([] : List Int)) (([] : List Int))), v3.2))
   ((Ga N p0 v3.1 p1).bind fun v5 =>
   some (v3.1, v5.2.2)))
def Et (_ : Nat) (p0 : Int) : Option ByteArray :=
 A7 (fun (v1 : Bool) =>
  AI v1
   (some ((⟨#[]⟩ : ByteArray)))
   ((Bl ([⟨#[]⟩, (⟨#[114, 101, 97, 100]⟩ : ByteArray), (⟨#[98, 101, 103, 105, 110]⟩ : ByteArray), (⟨#[100, 111, 110, 101]⟩ : ByteArray), (⟨#[97, 98, 111, 114, 116]⟩ : ByteArray), (⟨#[114, 101, 115, 117, 109, 101]⟩ : ByteArray), (⟨#[115, 119, 105, 116, 99, 104]⟩ : ByteArray), (⟨#[108, 101, 97, 115, 101]⟩ : ByteArray)] : List ByteArray) p0).bind fun v4 =>
   some v4))
 fun j1 =>
 AI ((decide (p0 < 0)))
  (j1 true)
  (j1 (decide (8 ≤ p0)))
def Du (_ : Nat) (p0 : Ab) : Option ((List Int)) :=
 AI ((p0.fa == 1))
  (some (([p0.fy, p0.fA, p0.fF] : List Int)))
  (AI ((p0.fa == 6))
   (some (([p0.ft, p0.fq, p0.fJ] : List Int)))
   (AI ((p0.fa == 7))
    (some (([p0.fK, p0.fv] : List Int)))
    (some (([p0.fm, p0.fv] : List Int)))))
def D3 (_ : Nat) (p0 : Int) (p1 : Int) (p2 : List Int) : Option Ab :=
 A7 (fun (v1 : Int × Int × Int × Int × Int × Int × Int × Int × Int) =>
  some ((Ab.mk p0 p1 v1.1 v1.2.1 v1.2.2.1 v1.2.2.2.1 v1.2.2.2.2.1 v1.2.2.2.2.2.1 v1.2.2.2.2.2.2.1 v1.2.2.2.2.2.2.2.1 v1.2.2.2.2.2.2.2.2)))
 fun j1 =>
 AI ((p1 == 1))
  ((Bl p2 0).bind fun v3 =>
  (Bl p2 1).bind fun v4 =>
  (Bl p2 2).bind fun v5 =>
  j1 (v3, v4, v5, 0, 0, 0, 0, 0, 0))
  (AI ((p1 == 6))
   ((Bl p2 0).bind fun v7 =>
   (Bl p2 1).bind fun v8 =>
   (Bl p2 2).bind fun v9 =>
   j1 (0, 0, 0, 0, 0, v9, v7, v8, 0))
   (AI ((p1 == 7))
    ((Bl p2 0).bind fun v11 =>
    (Bl p2 1).bind fun v12 =>
    j1 (0, 0, 0, 0, v12, 0, 0, 0, v11))
    ((Bl p2 0).bind fun v13 =>
    (Bl p2 1).bind fun v14 =>
    j1 (0, 0, 0, v13, v14, 0, 0, 0, 0))))
def AT (N : Nat) (p0 : List Int) (p1 : Int → Option Bool) (j1 : Unit → Option Int) : Nat → Int → Option Int
 | 0, _ => none
 | n1 + 1, v1 =>
  AI ((decide (v1 < (p0.length : Int))))
   ((Bl p0 v1).bind fun v4 =>
   (p1 v4).bind fun v5 =>
   AI v5
    (some v1)
    (AT N p0 p1 j1 n1 (wI .i64 (v1 + 1))))
   (j1 ())
def B4 (N : Nat) (p0 : List Int) (p1 : Int → Option Bool) : Option Int :=
 AT N p0 p1 (fun (_ : Unit) =>
  some ((-1))) N 0
def A8 (N : Nat) (p0 : List Int) (p1 : Int → Option Bool) : Option Bool :=
 (B4 N p0 p1).bind fun v1 =>
 some ((decide (0 ≤ v1)))
def DD (_ : Nat) (p0 : Int) : Option Bool :=
 some ((decide (p0 < 0)))
def EO (N : Nat) (p0 : Ab) : Option Bool :=
 A7 (fun (v1 : Bool) =>
  AI v1
   (some false)
   ((Du N p0).bind fun v5 =>
   A7 (fun (v6 : Bool) =>
    some v6)
   fun j6 =>
   (D3 N p0.fi p0.fa v5).bind fun v7 =>
   AI (((p0.fi == v7.fi) && ((p0.fa == v7.fa) && ((p0.fy == v7.fy) && ((p0.fA == v7.fA) && ((p0.fF == v7.fF) && ((p0.fm == v7.fm) && ((p0.fv == v7.fv) && ((p0.fJ == v7.fJ) && ((p0.ft == v7.ft) && ((p0.fq == v7.fq) && ((p0.fK == v7.fK) && true))))))))))))
    ((A8 N v5 ((fun (x : Int) => DD N x))).bind fun v9 =>
    j6 (!v9))
    (j6 false)))
 fun j1 =>
 (Et N p0.fa).bind fun v2 =>
 AI ((v2.toList == ((⟨#[]⟩ : ByteArray)).toList))
  (j1 true)
  (j1 (decide (p0.fi < 0)))
def Dp (N : Nat) (p0 : List Ab) (j2 : Unit → Option Int) : Nat → Int → Option Int
 | 0, _ => none
 | n2 + 1, v2 =>
  AI ((decide (v2 < (p0.length : Int))))
   ((Bl p0 v2).bind fun v5 =>
   A7 (fun (v6 : Bool) =>
    AI v6
     (some 1)
     (Dp N p0 j2 n2 (wI .i64 (v2 + 1))))
   fun j6 =>
   (EO N v5).bind fun v7 =>
   AI ((!v7))
    (j6 true)
    (AI ((decide (0 < v2)))
     ((Bl p0 ((wI .i64 (v2 - 1)))).bind fun v10 =>
     j6 (decide (v5.fi < v10.fi)))
     (j6 false)))
   (j2 ())
def Dd (N : Nat) (p0 : List Ab) : Option Int :=
 AI ((decide (10000 < (p0.length : Int))))
  (some 3)
  (Dp N p0 (fun (_ : Unit) =>
   some 0) N 0)
def Ej (_ : Nat) : Option A2 :=
 some ((A2.mk 0 0 false (([] : List (Int × Int)))))
def DW (_ : Nat) (p0 : Aa) (p1 : Ab) : Option Bool :=
 AI ((decide ((p0.fd.length : Int) ≤ p1.fy)))
  (some false)
  ((Bl p0.fd p1.fy).bind fun v2 =>
  A7 (fun (v3 : Bool) =>
   some v3)
  fun j3 =>
  AI ((decide (p1.fA < (v2.fD.length : Int))))
   ((Bl p0.fb v2.fB).bind fun v5 =>
   AI ((decide (p1.fF < v5)))
    ((Bl v2.fD p1.fA).bind fun v7 =>
    (Bl v7 p1.fF).bind fun v8 =>
    j3 v8)
    (j3 false))
   (j3 false))
def CT (_ : Nat) (p0 : Ab) : Option Bool :=
 A7 (fun (v1 : Bool) =>
  some v1)
 fun j1 =>
 AI ((decide (2 ≤ p0.fa)))
  (j1 (decide (p0.fa ≤ 5)))
  (j1 false)
def BL (_ : Nat) (p0 : Ah) (p1 : Ab) : Option Bool :=
 A7 (fun (v1 : Bool) =>
  AI v1
   (some false)
   (AI ((p1.fa == 2))
    (some ((p0.fw == 0)))
    (AI ((p1.fa == 3))
     (some ((p0.fw == 1)))
     (AI ((p1.fa == 4))
      (A7 (fun (v7 : Bool) =>
       some v7)
      fun j7 =>
      AI ((p0.fw == 1))
       ((Bl p0.fr p0.fi).bind fun v9 =>
       j7 (v9.fa == 1))
       (j7 false))
      (some ((p0.fw == 2)))))))
 fun j1 =>
 AI ((p1.fm != p0.fi))
  (j1 true)
  (j1 (decide ((p0.fr.length : Int) ≤ p0.fi)))
def CX (N : Nat) (p0 : A2) (p1 : Ab) : Option (Bool × A2 × (List (Int × Int))) :=
 A7 (fun (v1 : (List (Int × Int)) × Int × Int × Bool) =>
  some (true, (A2.mk v1.2.1 v1.2.2.1 v1.2.2.2 v1.1), v1.1))
 fun j1 =>
 (CT N p1).bind fun v2 =>
 AI v2
  (AI ((decide (p1.fv < p0.fE)))
   (some (false, p0, p0.fI))
   (j1 (p0.fI, p1.fv, p0.fG, p0.fH)))
  (AI ((p1.fa == 6))
   (AI ((decide (p1.fJ < ((Fh p1.ft p0.fI).getD 0))))
    (some (false, p0, p0.fI))
    (j1 (Il p1.ft p1.fJ p0.fI, p0.fE, p0.fG, p0.fH)))
   (AI ((p1.fa == 7))
    (A7 (fun (v8 : Bool) =>
     AI v8
      (some (false, p0, p0.fI))
      (j1 (p0.fI, p0.fE, p1.fv, true)))
    fun j8 =>
    AI p0.fH
     (j8 (decide (p1.fv ≤ p0.fG)))
     (j8 false))
    (j1 (p0.fI, p0.fE, p0.fG, p0.fH))))
def Dn (N : Nat) (p0 : List Int) (j1 : Unit → Option Int) : Nat → (Int × Int) → Option Int
 | 0, _ => none
 | n1 + 1, v1 =>
  AI ((decide (v1.2 < (p0.length : Int))))
   ((Bl p0 v1.2).bind fun v4 =>
   AI ((decide (v1.1 < v4)))
    (some v1.2)
    (Dn N p0 j1 n1 ((wI .i64 (v1.1 - v4)), (wI .i64 (v1.2 + 1)))))
   (j1 ())
def D2 (N : Nat) (p0 : List Int) (p1 : Int) : Option Int :=
 Dn N p0 (fun (_ : Unit) =>
  some ((-1))) N (p1, 0)
def Cb (_ : Nat) (p0 : Ad) (p1 : Int) (p2 : Int) : Option Bool :=
 A7 (fun (v1 : Bool) =>
  some v1)
 fun j1 =>
 (Bl p0.fh p1).bind fun v2 =>
 AI ((v2 == p2))
  (j1 true)
  ((Bl p0.fe p1).bind fun v4 =>
  j1 (v4 == p2))
def DC (N : Nat) (p0 : Aa) (p1 : Ad) (p2 : Ab) : Option Bool :=
 (Bl p0.fd p2.fy).bind fun v1 =>
 (Cb N p1 v1.fB p2.fF).bind fun v2 =>
 AI ((!v2))
  (some false)
  (A7 (fun (v4 : Bool) =>
   AI v4
    ((Bl p1.ff p2.fy).bind fun v7 =>
    (ER (0 ≤ p2.fA)).bind fun _ =>
    some (((Fi .u8 ((Fp .u8 v7 p2.fA)) 1) == 1)))
    ((Cb N p1 v1.fj p2.fA).bind fun v9 =>
    some v9))
  fun j4 =>
  AI ((v1.fa == 3))
   (j4 true)
   (j4 (v1.fa == 4)))
def E7 (N : Nat) (p0 : Aa) (p1 : Ad) (p2 : Am) : Option (Ad × Int) :=
 (EW N p0 p1).bind fun v1 =>
 AI ((v1 != 0))
  (some ((Ad.mk (([] : List Int)) (([] : List Int)) (([] : List Int))), v1))
  ((Eu N p0 p1 p2).bind fun v3 =>
  some (v3.1, v3.2))
def BR (N : Nat) (p0 : Ah) (p1 : Am) : Option Ah :=
 (E7 N ((Aa.mk p0.fc.fb p0.fc.fk p0.fc.fp p0.fc.fd)) ((Ad.mk p0.fg.fh p0.fg.fe p0.fg.ff)) p1).bind fun v1 =>
 AI ((v1.2 == 0))
  (some ((Ah.mk ((Aa.mk p0.fc.fb p0.fc.fk p0.fc.fp p0.fc.fd)) p0.fr p0.fi p0.fw v1.1)))
  (some ((Ah.mk ((Aa.mk p0.fc.fb p0.fc.fk p0.fc.fp p0.fc.fd)) p0.fr p0.fi p0.fw ((Ad.mk p0.fg.fh p0.fg.fe p0.fg.ff)))))
def BE (N : Nat) (p0 : Ah) (p1 : Ab) : Option Ah :=
 (Bl p0.fr p0.fi).bind fun v1 =>
 AI ((p1.fa == 2))
  (AI ((v1.fa == 1))
   ((BR N ((Ah.mk ((Aa.mk p0.fc.fb p0.fc.fk p0.fc.fp p0.fc.fd)) p0.fr p0.fi 1 ((Ad.mk p0.fg.fh p0.fg.fe p0.fg.ff)))) v1).bind fun v4 =>
   some ((Ah.mk ((Aa.mk v4.fc.fb v4.fc.fk v4.fc.fp v4.fc.fd)) v4.fr v4.fi v4.fw ((Ad.mk v4.fg.fh v4.fg.fe v4.fg.ff)))))
   (some ((Ah.mk ((Aa.mk p0.fc.fb p0.fc.fk p0.fc.fp p0.fc.fd)) p0.fr p0.fi 1 ((Ad.mk p0.fg.fh p0.fg.fe p0.fg.ff))))))
  (AI ((p1.fa == 3))
   (A7 (fun (v6 : Ah) =>
    some ((Ah.mk ((Aa.mk v6.fc.fb v6.fc.fk v6.fc.fp v6.fc.fd)) v6.fr ((wI .i64 (v6.fi + 1))) 0 ((Ad.mk v6.fg.fh v6.fg.fe v6.fg.ff)))))
   fun j6 =>
   AI ((v1.fa != 1))
    ((BR N ((Ah.mk ((Aa.mk p0.fc.fb p0.fc.fk p0.fc.fp p0.fc.fd)) p0.fr p0.fi p0.fw ((Ad.mk p0.fg.fh p0.fg.fe p0.fg.ff)))) v1).bind fun v8 =>
    j6 (Ah.mk ((Aa.mk v8.fc.fb v8.fc.fk v8.fc.fp v8.fc.fd)) v8.fr v8.fi v8.fw ((Ad.mk v8.fg.fh v8.fg.fe v8.fg.ff))))
    (j6 (Ah.mk ((Aa.mk p0.fc.fb p0.fc.fk p0.fc.fp p0.fc.fd)) p0.fr p0.fi p0.fw ((Ad.mk p0.fg.fh p0.fg.fe p0.fg.ff)))))
   (AI ((p1.fa == 4))
    (some ((Ah.mk ((Aa.mk p0.fc.fb p0.fc.fk p0.fc.fp p0.fc.fd)) p0.fr p0.fi 2 ((Ad.mk p0.fg.fh p0.fg.fe p0.fg.ff)))))
    (AI ((p1.fa == 5))
     ((BR N ((Ah.mk ((Aa.mk p0.fc.fb p0.fc.fk p0.fc.fp p0.fc.fd)) p0.fr p0.fi 0 ((Ad.mk p0.fg.fh p0.fg.fe p0.fg.ff)))) ((Am.mk 4 v1.fm 0))).bind fun v11 =>
     some ((Ah.mk ((Aa.mk v11.fc.fb v11.fc.fk v11.fc.fp v11.fc.fd)) v11.fr v11.fi v11.fw ((Ad.mk v11.fg.fh v11.fg.fe v11.fg.ff)))))
     (some ((Ah.mk ((Aa.mk p0.fc.fb p0.fc.fk p0.fc.fp p0.fc.fd)) p0.fr p0.fi p0.fw ((Ad.mk p0.fg.fh p0.fg.fe p0.fg.ff))))))))
def C4 (N : Nat) (p0 : Ah) (p1 : A2) (p2 : List Int) (p3 : Ab) : Option (Int × Ah × A2 × (List (Int × Int))) :=
 A7 (fun (v1 : (List (Int × Int)) × Ah × Int × Int × Bool) =>
  some (0, (Ah.mk ((Aa.mk v1.2.1.fc.fb v1.2.1.fc.fk v1.2.1.fc.fp v1.2.1.fc.fd)) v1.2.1.fr v1.2.1.fi v1.2.1.fw ((Ad.mk v1.2.1.fg.fh v1.2.1.fg.fe v1.2.1.fg.ff))), (A2.mk v1.2.2.1 v1.2.2.2.1 v1.2.2.2.2 v1.1), v1.1))
 fun j1 =>
 A7 (fun (v2 : Bool) =>
  AI v2
   (some (1, (Ah.mk ((Aa.mk p0.fc.fb p0.fc.fk p0.fc.fp p0.fc.fd)) p0.fr p0.fi p0.fw ((Ad.mk p0.fg.fh p0.fg.fe p0.fg.ff))), p1, p1.fI))
   (A7 (fun (v6 : Bool) =>
    AI v6
     (some (2, (Ah.mk ((Aa.mk p0.fc.fb p0.fc.fk p0.fc.fp p0.fc.fd)) p0.fr p0.fi p0.fw ((Ad.mk p0.fg.fh p0.fg.fe p0.fg.ff))), p1, p1.fI))
     ((CX N p1 p3).bind fun v11 =>
     AI ((!v11.1))
      (some (3, (Ah.mk ((Aa.mk p0.fc.fb p0.fc.fk p0.fc.fp p0.fc.fd)) p0.fr p0.fi p0.fw ((Ad.mk p0.fg.fh p0.fg.fe p0.fg.ff))), (A2.mk v11.2.1.fE v11.2.1.fG v11.2.1.fH v11.2.2), v11.2.2))
      (AI ((p3.fa == 6))
       ((D2 N p2 p3.ft).bind fun v14 =>
       A7 (fun (v15 : Bool) =>
        AI v15
         (some (4, (Ah.mk ((Aa.mk p0.fc.fb p0.fc.fk p0.fc.fp p0.fc.fd)) p0.fr p0.fi p0.fw ((Ad.mk p0.fg.fh p0.fg.fe p0.fg.ff))), (A2.mk v11.2.1.fE v11.2.1.fG v11.2.1.fH v11.2.2), v11.2.2))
         (j1 (v11.2.2, (Ah.mk ((Aa.mk p0.fc.fb p0.fc.fk p0.fc.fp p0.fc.fd)) p0.fr p0.fi p0.fw ((Ad.mk p0.fg.fh p0.fg.fe p0.fg.ff))), v11.2.1.fE, v11.2.1.fG, v11.2.1.fH)))
       fun j15 =>
       AI ((decide (v14 < 0)))
        (j15 true)
        ((Cb N ((Ad.mk p0.fg.fh p0.fg.fe p0.fg.ff)) v14 p3.fq).bind fun v17 =>
        j15 (!v17)))
       (AI ((p3.fa == 1))
        ((DC N ((Aa.mk p0.fc.fb p0.fc.fk p0.fc.fp p0.fc.fd)) ((Ad.mk p0.fg.fh p0.fg.fe p0.fg.ff)) p3).bind fun v20 =>
        AI ((!v20))
         (some (5, (Ah.mk ((Aa.mk p0.fc.fb p0.fc.fk p0.fc.fp p0.fc.fd)) p0.fr p0.fi p0.fw ((Ad.mk p0.fg.fh p0.fg.fe p0.fg.ff))), (A2.mk v11.2.1.fE v11.2.1.fG v11.2.1.fH v11.2.2), v11.2.2))
         (j1 (v11.2.2, (Ah.mk ((Aa.mk p0.fc.fb p0.fc.fk p0.fc.fp p0.fc.fd)) p0.fr p0.fi p0.fw ((Ad.mk p0.fg.fh p0.fg.fe p0.fg.ff))), v11.2.1.fE, v11.2.1.fG, v11.2.1.fH)))
        ((CT N p3).bind fun v22 =>
        AI v22
         ((BE N ((Ah.mk ((Aa.mk p0.fc.fb p0.fc.fk p0.fc.fp p0.fc.fd)) p0.fr p0.fi p0.fw ((Ad.mk p0.fg.fh p0.fg.fe p0.fg.ff)))) p3).bind fun v24 =>
         j1 (v11.2.2, (Ah.mk ((Aa.mk v24.fc.fb v24.fc.fk v24.fc.fp v24.fc.fd)) v24.fr v24.fi v24.fw ((Ad.mk v24.fg.fh v24.fg.fe v24.fg.ff))), v11.2.1.fE, v11.2.1.fG, v11.2.1.fH))
         (j1 (v11.2.2, (Ah.mk ((Aa.mk p0.fc.fb p0.fc.fk p0.fc.fp p0.fc.fd)) p0.fr p0.fi p0.fw ((Ad.mk p0.fg.fh p0.fg.fe p0.fg.ff))), v11.2.1.fE, v11.2.1.fG, v11.2.1.fH)))))))
   fun j6 =>
   (CT N p3).bind fun v7 =>
   AI v7
    ((BL N ((Ah.mk ((Aa.mk p0.fc.fb p0.fc.fk p0.fc.fp p0.fc.fd)) p0.fr p0.fi p0.fw ((Ad.mk p0.fg.fh p0.fg.fe p0.fg.ff)))) p3).bind fun v9 =>
    j6 (!v9))
    (j6 false)))
 fun j2 =>
 AI ((p3.fa == 1))
  ((DW N ((Aa.mk p0.fc.fb p0.fc.fk p0.fc.fp p0.fc.fd)) p3).bind fun v4 =>
  j2 (!v4))
  (j2 false)
def C3 (N : Nat) (p1 : List Int) (p3 : List Ab) (j11 : Ah → Option (Int × Int × (Option Ah) × Int)) : Nat → (Ah × Int × Int × Bool × (List (Int × Int)) × Int) → Option (Int × Int × (Option Ah) × Int)
 | 0, _ => none
 | n11 + 1, v11 =>
  AI ((decide (v11.2.2.2.2.2 < (p3.length : Int))))
   ((Bl p3 v11.2.2.2.2.2).bind fun v14 =>
   (C4 N ((Ah.mk ((Aa.mk v11.1.fc.fb v11.1.fc.fk v11.1.fc.fp v11.1.fc.fd)) v11.1.fr v11.1.fi v11.1.fw ((Ad.mk v11.1.fg.fh v11.1.fg.fe v11.1.fg.ff)))) ((A2.mk v11.2.1 v11.2.2.1 v11.2.2.2.1 v11.2.2.2.2.1)) p1 v14).bind fun v15 =>
   AI ((v15.1 != 0))
    (some (v11.2.2.2.2.2, v15.1, (none : Option Ah), 0))
    (C3 N p1 p3 j11 n11 ((Ah.mk ((Aa.mk v15.2.1.fc.fb v15.2.1.fc.fk v15.2.1.fc.fp v15.2.1.fc.fd)) v15.2.1.fr v15.2.1.fi v15.2.1.fw ((Ad.mk v15.2.1.fg.fh v15.2.1.fg.fe v15.2.1.fg.ff))), v15.2.2.1.fE, v15.2.2.1.fG, v15.2.2.1.fH, v15.2.2.2, (wI .i64 (v11.2.2.2.2.2 + 1)))))
   (j11 (Ah.mk ((Aa.mk v11.1.fc.fb v11.1.fc.fk v11.1.fc.fp v11.1.fc.fd)) v11.1.fr v11.1.fi v11.1.fw ((Ad.mk v11.1.fg.fh v11.1.fg.fe v11.1.fg.ff))))
def EI (N : Nat) (p0 : Aa) (p1 : List Int) (p2 : List Am) (p3 : List Ab) : Option (Int × Int × (Option Ah) × Int) :=
 (BI N p0).bind fun v1 =>
 AI ((v1 != 0))
  (some (0, 0, (none : Option Ah), v1))
  ((D9 N p0 p1).bind fun v3 =>
  AI ((v3 != 0))
   (some (0, 0, (none : Option Ah), v3))
   ((C5 N p0 p2).bind fun v5 =>
   A7 (fun (v6 : Int) =>
    AI ((v6 != 0))
     (some (0, 0, (none : Option Ah), v6))
     ((Ej N).bind fun v10 =>
     C3 N p1 p3 (fun (v12 : Ah) =>
      some (0, 0, (some ((Ah.mk ((Aa.mk v12.fc.fb v12.fc.fk v12.fc.fp v12.fc.fd)) v12.fr v12.fi v12.fw ((Ad.mk v12.fg.fh v12.fg.fe v12.fg.ff))))), 15)) N ((Ah.mk p0 p2 0 0 v5.1), v10.fE, v10.fG, v10.fH, v10.fI, 0)))
   fun j6 =>
   AI ((v5.2 == 0))
    ((Dd N p3).bind fun v8 =>
    j6 v8)
    (j6 v5.2)))
def Cr (N : Nat) (p0 : Aa) (p1 : List Int) (p2 : List Am) (p3 : List Ab) : Option (Int × Int × Int) :=
 (EI N p0 p1 p2 p3).bind fun v1 =>
 some (v1.1, v1.2.1, v1.2.2.2)
def DR (N : Nat) (p2 : List Ab) (j8 : Ah → Option ((Option Ah) × Int × Int)) : Nat → (Ah × Int) → Option ((Option Ah) × Int × Int)
 | 0, _ => none
 | n8 + 1, v8 =>
  AI ((decide (v8.2 < (p2.length : Int))))
   (A7 (fun (v11 : Ah) =>
    DR N p2 j8 n8 ((Ah.mk ((Aa.mk v11.fc.fb v11.fc.fk v11.fc.fp v11.fc.fd)) v11.fr v11.fi v11.fw ((Ad.mk v11.fg.fh v11.fg.fe v11.fg.ff))), (wI .i64 (v8.2 + 1))))
   fun j11 =>
   (Bl p2 v8.2).bind fun v12 =>
   (CT N v12).bind fun v13 =>
   AI ((!v13))
    (j11 (Ah.mk ((Aa.mk v8.1.fc.fb v8.1.fc.fk v8.1.fc.fp v8.1.fc.fd)) v8.1.fr v8.1.fi v8.1.fw ((Ad.mk v8.1.fg.fh v8.1.fg.fe v8.1.fg.ff))))
    ((BL N ((Ah.mk ((Aa.mk v8.1.fc.fb v8.1.fc.fk v8.1.fc.fp v8.1.fc.fd)) v8.1.fr v8.1.fi v8.1.fw ((Ad.mk v8.1.fg.fh v8.1.fg.fe v8.1.fg.ff)))) v12).bind fun v15 =>
    AI ((!v15))
     (some ((some ((Ah.mk ((Aa.mk v8.1.fc.fb v8.1.fc.fk v8.1.fc.fp v8.1.fc.fd)) v8.1.fr v8.1.fi v8.1.fw ((Ad.mk v8.1.fg.fh v8.1.fg.fe v8.1.fg.ff))))), v8.2, 0))
     ((BE N ((Ah.mk ((Aa.mk v8.1.fc.fb v8.1.fc.fk v8.1.fc.fp v8.1.fc.fd)) v8.1.fr v8.1.fi v8.1.fw ((Ad.mk v8.1.fg.fh v8.1.fg.fe v8.1.fg.ff)))) v12).bind fun v17 =>
     j11 (Ah.mk ((Aa.mk v17.fc.fb v17.fc.fk v17.fc.fp v17.fc.fd)) v17.fr v17.fi v17.fw ((Ad.mk v17.fg.fh v17.fg.fe v17.fg.ff))))))
   (j8 (Ah.mk ((Aa.mk v8.1.fc.fb v8.1.fc.fk v8.1.fc.fp v8.1.fc.fd)) v8.1.fr v8.1.fi v8.1.fw ((Ad.mk v8.1.fg.fh v8.1.fg.fe v8.1.fg.ff))))
def FH (N : Nat) (p0 : Aa) (p1 : List Am) (p2 : List Ab) : Option ((Option Ah) × Int × Int) :=
 (BI N p0).bind fun v1 =>
 AI ((v1 != 0))
  (some ((none : Option Ah), 0, v1))
  ((C5 N p0 p1).bind fun v3 =>
  A7 (fun (v4 : Int) =>
   AI ((v4 != 0))
    (some ((none : Option Ah), 0, v4))
    (DR N p2 (fun (v9 : Ah) =>
     some ((some ((Ah.mk ((Aa.mk v9.fc.fb v9.fc.fk v9.fc.fp v9.fc.fd)) v9.fr v9.fi v9.fw ((Ad.mk v9.fg.fh v9.fg.fe v9.fg.ff))))), (-1), 0)) N ((Ah.mk p0 p1 0 0 v3.1), 0)))
  fun j4 =>
  AI ((v3.2 == 0))
   ((Dd N p2).bind fun v6 =>
   j4 v6)
   (j4 v3.2))
def HL (N : Nat) (p0 : Aa) (p1 : List Am) (p2 : List Ab) : Option (Ad × Int) :=
 (FH N p0 p1 p2).bind fun v1 =>
 AI ((v1.2.2 != 0))
  (some ((Ad.mk (([] : List Int)) (([] : List Int)) (([] : List Int))), v1.2.2))
  (AI ((decide (0 ≤ v1.2.1)))
   (some ((Ad.mk (([] : List Int)) (([] : List Int)) (([] : List Int))), 11))
   (v1.1.bind fun v4 =>
   some ((Ad.mk v4.fg.fh v4.fg.fe v4.fg.ff), 0)))
def EL (_ : Nat) (p0 p1 : Int) : Option ByteArray := (ER (p1 = 10)).bind fun _ => MG p0
def EV (N : Nat) (v5 : (List Int)) (j6 : ByteArray → Option ByteArray) : Nat → (ByteArray × Int) → Option ByteArray
 | 0, _ => none
 | n6 + 1, v6 =>
  AI ((decide (v6.2 < (v5.length : Int))))
   ((Bl v5 v6.2).bind fun v9 =>
   (EL N v9 10).bind fun v10 =>
   (ER (((⟨#[32]⟩ : ByteArray)).size + v10.size ≤ 9223372036854775807)).bind fun _ =>
   (ER (v6.1.size + (((⟨#[32]⟩ : ByteArray) ++ v10)).size ≤ 9223372036854775807)).bind fun _ =>
   EV N v5 j6 n6 ((v6.1 ++ ((⟨#[32]⟩ : ByteArray) ++ v10)), (wI .i64 (v6.2 + 1))))
   (j6 v6.1)
def Es (N : Nat) (p0 : Ab) : Option ByteArray :=
 (EL N p0.fi 10).bind fun v1 =>
 (ER (v1.size + ((⟨#[32]⟩ : ByteArray)).size ≤ 9223372036854775807)).bind fun _ =>
 (Et N p0.fa).bind fun v3 =>
 (ER (((v1 ++ (⟨#[32]⟩ : ByteArray))).size + v3.size ≤ 9223372036854775807)).bind fun _ =>
 (Du N p0).bind fun v5 =>
 EV N v5 (fun (v7 : ByteArray) =>
  (ER (v7.size + ((⟨#[10]⟩ : ByteArray)).size ≤ 9223372036854775807)).bind fun _ =>
  some ((v7 ++ (⟨#[10]⟩ : ByteArray)))) N (((v1 ++ (⟨#[32]⟩ : ByteArray)) ++ v3), 0)
def DU (line : Ab → Option ByteArray) : List Ab → ByteArray → Option ByteArray
 | [], a => some a
 | x :: xs, a => (line x).bind fun s => (ER (a.size + s.size ≤ 140737488355328)).bind fun _ => DU line xs (a ++ s)
def H1 (N : Nat) (p0 : List Ab) : Option (ByteArray × Int) :=
 (ER (p0.length ≤ 1000000)).bind fun _ =>
 (Dd N p0).bind fun v1 =>
 AI (v1 != 0)
  (some (⟨#[]⟩, v1))
  ((DU (fun x => Es N x) p0 ⟨#[]⟩).bind fun s =>
  AI (decide (65536 < s.size)) (some (⟨#[]⟩, 3)) (some (s, 0)))
def Hh (_ : Nat) (p0 : Int) : Option ByteArray :=
 (Bl (([(⟨#[]⟩ : ByteArray), (⟨#[114, 101, 97, 100]⟩ : ByteArray), (⟨#[111, 114, 100, 101, 114]⟩ : ByteArray), (⟨#[116, 111, 107, 101, 110]⟩ : ByteArray), (⟨#[115, 119, 105, 116, 99, 104]⟩ : ByteArray), (⟨#[109, 105, 120]⟩ : ByteArray)] : List ByteArray)) p0).bind fun v1 =>
 some v1
def HY (_ : Nat) (p0 : Int) : Option ByteArray := MG p0
def CI (_ : Nat) (p0 : ByteArray) (p1 : ByteArray) : Option Bool :=
 A7 (fun (v1 : Bool) =>
  some v1)
 fun j1 =>
 AI ((decide ((p1.size : Int) ≤ (p0.size : Int))))
  ((ER ((0 : Int) ≤ (wI .i64 ((p0.size : Int) - (p1.size : Int))) ∧ ((wI .i64 ((p0.size : Int) - (p1.size : Int)))).toNat ≤ p0.size ∧ p0.size ≤ p0.size)).bind fun _ =>
  j1 (((p0.extract (((wI .i64 ((p0.size : Int) - (p1.size : Int)))).toNat) p0.size)).toList == p1.toList))
  (j1 false)
def Cu (N : Nat) (p0 : ByteArray) (p1 : ByteArray) : Option ByteArray :=
 (CI N p0 p1).bind fun v1 =>
 AI v1
  ((ER ((0 : Int) ≤ (wI .i64 ((p0.size : Int) - (p1.size : Int))) ∧ 0 ≤ ((wI .i64 ((p0.size : Int) - (p1.size : Int)))).toNat ∧ ((wI .i64 ((p0.size : Int) - (p1.size : Int)))).toNat ≤ p0.size)).bind fun _ =>
  some ((p0.extract 0 (((wI .i64 ((p0.size : Int) - (p1.size : Int)))).toNat))))
  (some p0)
def Ew (N : Nat) (p0 : ByteArray) (p1 : ByteArray) : Option ByteArray :=
 (Cu N p0 p1).bind fun v1 =>
 some v1
def Gi (N : Nat) (p0 : List Ab) (p1 : Int) (p2 : Int) : Option (ByteArray × Int) :=
 (Dd N p0).bind fun v1 =>
 AI ((v1 != 0))
  (some ((⟨#[]⟩ : ByteArray), v1))
  (A7 (fun (v3 : Bool) =>
   AI v3
    (some ((⟨#[]⟩ : ByteArray), 7))
    (A7 (fun (v6 : Bool) =>
     AI v6
      (some ((⟨#[]⟩ : ByteArray), 1))
      ((ER ((0 : Int) ≤ p1 ∧ (0 : Int) ≤ (wI .i64 (p1 + 1)) ∧ (p1).toNat ≤ ((wI .i64 (p1 + 1))).toNat ∧ ((wI .i64 (p1 + 1))).toNat ≤ p0.length)).bind fun _ =>
      (H1 N (((p0.drop (p1).toNat).take (((wI .i64 (p1 + 1))).toNat - (p1).toNat)))).bind fun v10 =>
      AI ((v10.2 != 0))
       (some ((⟨#[]⟩ : ByteArray), v10.2))
       ((Hh N p2).bind fun v12 =>
       (ER (v12.size + ((⟨#[32]⟩ : ByteArray)).size ≤ 9223372036854775807)).bind fun _ =>
       (HY N p1).bind fun v14 =>
       (ER (((v12 ++ (⟨#[32]⟩ : ByteArray))).size + v14.size ≤ 9223372036854775807)).bind fun _ =>
       (ER ((((v12 ++ (⟨#[32]⟩ : ByteArray)) ++ v14)).size + ((⟨#[58, 32]⟩ : ByteArray)).size ≤ 9223372036854775807)).bind fun _ =>
       (Ew N v10.1 ((⟨#[10]⟩ : ByteArray))).bind fun v17 =>
       (ER (((((v12 ++ (⟨#[32]⟩ : ByteArray)) ++ v14) ++ (⟨#[58, 32]⟩ : ByteArray))).size + v17.size ≤ 9223372036854775807)).bind fun _ =>
       some (((((v12 ++ (⟨#[32]⟩ : ByteArray)) ++ v14) ++ (⟨#[58, 32]⟩ : ByteArray)) ++ v17), 0))))
    fun j6 =>
    AI ((decide (p2 < 1)))
     (j6 true)
     (j6 (decide (5 < p2)))))
  fun j3 =>
  AI ((decide (p1 < 0)))
   (j3 true)
   (j3 (decide ((p0.length : Int) ≤ p1))))
def Df (N : Nat) : Option Bool :=
 (ER ((0 : Int) ≤ 3 ∧ 0 ≤ (3 : Int).toNat ∧ (3 : Int).toNat ≤ (([(Ab.mk 0 7 0 0 0 0 1 0 0 0 0), (Ab.mk 0 2 0 0 0 0 1 0 0 0 0), (Ab.mk 1 6 0 0 0 0 0 1 0 1 0), (Ab.mk 2 3 0 0 0 1 1 0 0 0 0)] : List Ab)).length)).bind fun _ =>
 (Cr N ((Aa.mk (([2] : List Int)) (([0] : List Int)) (([1] : List Int)) (([] : List AG)))) (([1] : List Int)) (([(Am.mk 1 0 1), (Am.mk 2 0 0)] : List Am)) ((((([(Ab.mk 0 7 0 0 0 0 1 0 0 0 0), (Ab.mk 0 2 0 0 0 0 1 0 0 0 0), (Ab.mk 1 6 0 0 0 0 0 1 0 1 0), (Ab.mk 2 3 0 0 0 1 1 0 0 0 0)] : List Ab)).drop 0).take ((3 : Int).toNat - 0)))).bind fun v2 =>
 (ER ((0 : Int) ≤ 3 ∧ 0 ≤ (3 : Int).toNat ∧ (3 : Int).toNat ≤ (([(Ab.mk 0 7 0 0 0 0 1 0 0 0 0), (Ab.mk 0 2 0 0 0 0 1 0 0 0 0), (Ab.mk 1 6 0 0 0 0 0 1 0 1 0), (Ab.mk 2 3 0 0 0 1 1 0 0 0 0)] : List Ab)).length)).bind fun _ =>
 (HL N ((Aa.mk (([2] : List Int)) (([0] : List Int)) (([1] : List Int)) (([] : List AG)))) (([(Am.mk 1 0 1), (Am.mk 2 0 0)] : List Am)) ((((([(Ab.mk 0 7 0 0 0 0 1 0 0 0 0), (Ab.mk 0 2 0 0 0 0 1 0 0 0 0), (Ab.mk 1 6 0 0 0 0 0 1 0 1 0), (Ab.mk 2 3 0 0 0 1 1 0 0 0 0)] : List Ab)).drop 0).take ((3 : Int).toNat - 0)))).bind fun v4 =>
 (Cr N ((Aa.mk (([2] : List Int)) (([0] : List Int)) (([1] : List Int)) (([] : List AG)))) (([1] : List Int)) (([(Am.mk 1 0 1), (Am.mk 2 0 0)] : List Am)) (([(Ab.mk 0 7 0 0 0 0 1 0 0 0 0), (Ab.mk 0 2 0 0 0 0 1 0 0 0 0), (Ab.mk 1 6 0 0 0 0 0 1 0 1 0), (Ab.mk 2 3 0 0 0 1 1 0 0 0 0)] : List Ab))).bind fun v5 =>
 (Gi N (([(Ab.mk 0 7 0 0 0 0 1 0 0 0 0), (Ab.mk 0 2 0 0 0 0 1 0 0 0 0), (Ab.mk 1 6 0 0 0 0 0 1 0 1 0), (Ab.mk 2 3 0 0 0 1 1 0 0 0 0)] : List Ab)) 3 2).bind fun v6 =>
 A7 (fun (v7 : Bool) =>
  some v7)
 fun j7 =>
 AI ((v2.2.2 == 15))
  (AI ((v4.2 == 0))
   (AI ((v5.2.2 == 0))
    (AI ((v6.2 == 0))
     (AI (((v4.1.fe.length : Int) == 1))
      ((Bl v4.1.fe 0).bind fun v13 =>
      AI ((v13 == 1))
       (AI ((v5.1 == 3))
        (AI ((v5.2.1 == 2))
         (j7 (v6.1.toList == ((⟨#[111, 114, 100, 101, 114, 32, 51, 58, 32, 50, 32, 100, 111, 110, 101, 32, 49, 32, 49]⟩ : ByteArray)).toList))
         (j7 false))
        (j7 false))
       (j7 false))
      (j7 false))
     (j7 false))
    (j7 false))
   (j7 false))
  (j7 false)
def BC (N : Nat) (p0 : Aa) (v6 : Int) (j14 : Unit → Option Bool) : Nat → Int → Option Bool
 | 0, _ => none
 | n14 + 1, v14 =>
  (Bl p0.fd v6).bind fun v16 =>
  AI ((decide (v14 < (v16.fD.length : Int))))
   ((Bl p0.fd v6).bind fun v18 =>
   (Bl v18.fD v14).bind fun v19 =>
   AI ((decide (8 < (v19.length : Int))))
    (some false)
    (BC N p0 v6 j14 n14 (wI .i64 (v14 + 1))))
   (j14 ())
def BA (N : Nat) (p0 : Aa) (v6 : Int) (j21 : Unit → Option Bool) : Nat → Int → Option Bool
 | 0, _ => none
 | n21 + 1, v21 =>
  (Bl p0.fd v6).bind fun v23 =>
  AI ((decide (v21 < (v23.fu.length : Int))))
   ((Bl p0.fd v6).bind fun v25 =>
   (Bl v25.fu v21).bind fun v26 =>
   AI ((decide (8 < (v26.length : Int))))
    (some false)
    (BA N p0 v6 j21 n21 (wI .i64 (v21 + 1))))
   (j21 ())
def Cn (N : Nat) (p0 : Aa) (j6 : Unit → Option Bool) : Nat → Int → Option Bool
 | 0, _ => none
 | n6 + 1, v6 =>
  AI ((decide (v6 < (p0.fd.length : Int))))
   (A7 (fun (v9 : Bool) =>
    AI v9
     (some false)
     (BC N p0 v6 (fun (_ : Unit) =>
      BA N p0 v6 (fun (_ : Unit) =>
       Cn N p0 j6 n6 (wI .i64 (v6 + 1))) N 0) N 0))
   fun j9 =>
   (Bl p0.fd v6).bind fun v10 =>
   AI ((decide (8 < (v10.fD.length : Int))))
    (j9 true)
    ((Bl p0.fd v6).bind fun v12 =>
    j9 (decide (8 < (v12.fu.length : Int)))))
   (j6 ())
def C0 (N : Nat) (p0 : Aa) : Option Bool :=
 A7 (fun (v1 : Bool) =>
  AI v1
   (some false)
   (Cn N p0 (fun (_ : Unit) =>
    some true) N 0))
 fun j1 =>
 AI ((decide (8 < (p0.fb.length : Int))))
  (j1 true)
  (AI ((decide (8 < (p0.fk.length : Int))))
   (j1 true)
   (AI ((decide (8 < (p0.fp.length : Int))))
    (j1 true)
    (j1 (decide (14 < (p0.fd.length : Int))))))
def B7 (N : Nat) (p0 : BK) : Option Bool :=
 A7 (fun (v1 : Bool) =>
  some v1)
 fun j1 =>
 (C0 N ((Aa.mk p0.fc.fb p0.fc.fk p0.fc.fp p0.fc.fd))).bind fun v2 =>
 AI v2
  (AI ((decide ((p0.fM.length : Int) ≤ 8)))
   (AI ((decide ((p0.fr.length : Int) ≤ 20)))
    (j1 (decide ((p0.fC.length : Int) ≤ 80)))
    (j1 false))
   (j1 false))
  (j1 false)
def AY (_ : Nat) (p0 : AG) : Option Bool :=
 A7 (fun (v1 : Bool) =>
  some v1)
 fun j1 =>
 AI ((p0.fa == 3))
  (j1 true)
  (j1 (p0.fa == 4))
def BD (N : Nat) (p0 : List (List Bool)) (p1 : Int) (p2 : Int) (j2 : Unit → Option Bool) : Nat → Int → Option Bool
 | 0, _ => none
 | n2 + 1, v2 =>
  AI ((decide (v2 < p1)))
   ((Bl p0 v2).bind fun v5 =>
   AI (((v5.length : Int) != p2))
    (some false)
    (BD N p0 p1 p2 j2 n2 (wI .i64 (v2 + 1))))
   (j2 ())
def Ck (N : Nat) (p0 : List (List Bool)) (p1 : Int) (p2 : Int) : Option Bool :=
 AI (((p0.length : Int) != p1))
  (some false)
  (BD N p0 p1 p2 (fun (_ : Unit) =>
   some true) N 0)
def Bn (N : Nat) (p1 : AG) (j22 : Unit → Option Int) : Nat → Int → Option Int
 | 0, _ => none
 | n22 + 1, v22 =>
  AI ((decide (v22 < (p1.fu.length : Int))))
   ((Bl p1.fu v22).bind fun v25 =>
   (Bl v25 v22).bind fun v26 =>
   AI ((!v26))
    (some 1)
    (Bn N p1 j22 n22 (wI .i64 (v22 + 1))))
   (j22 ())
def Dc (N : Nat) (p0 : Aa) (p1 : AG) : Option Int :=
 A7 (fun (v1 : Bool) =>
  AI v1
   (some 1)
   (A7 (fun (v7 : Bool) =>
    AI v7
     (some 4)
     ((Bl p0.fb p1.fj).bind fun v12 =>
     (Bl p0.fb p1.fB).bind fun v13 =>
     (Ck N p1.fD v12 v13).bind fun v14 =>
     AI ((!v14))
      (some 6)
      (AI ((p1.fa != 4))
       (AI (((p1.fu.length : Int) != 0))
        (some 6)
        (some 0))
       ((Bl p0.fb p1.fj).bind fun v18 =>
       (Bl p0.fb p1.fj).bind fun v19 =>
       (Ck N p1.fu v18 v19).bind fun v20 =>
       AI ((!v20))
        (some 6)
        (Bn N p1 (fun (_ : Unit) =>
         some 0) N 0)))))
   fun j7 =>
   AI ((decide (p1.fj < 0)))
    (j7 true)
    (AI ((decide ((p0.fb.length : Int) ≤ p1.fj)))
     (j7 true)
     (AI ((decide (p1.fB < 0)))
      (j7 true)
      (j7 (decide ((p0.fb.length : Int) ≤ p1.fB)))))))
 fun j1 =>
 AI ((decide (p1.fa < 1)))
  (j1 true)
  (AI ((decide (4 < p1.fa)))
   (j1 true)
   (AI p1.fQ
    ((AY N p1).bind fun v5 =>
    j1 v5)
    (j1 false)))
def AX (N : Nat) (p0 : Aa) (j7 : Unit → Option Int) : Nat → Int → Option Int
 | 0, _ => none
 | n7 + 1, v7 =>
  AI ((decide (v7 < (p0.fb.length : Int))))
   ((Bl p0.fb v7).bind fun v10 =>
   A7 (fun (v11 : Bool) =>
    AI v11
     (some 7)
     (AX N p0 j7 n7 (wI .i64 (v7 + 1))))
   fun j11 =>
   AI ((decide (v10 < 1)))
    (j11 true)
    (AI ((decide (6 < v10)))
     (j11 true)
     ((Bl p0.fk v7).bind fun v14 =>
     AI ((decide (v14 < 0)))
      (j11 true)
      ((Bl p0.fk v7).bind fun v16 =>
      AI ((decide (v10 ≤ v16)))
       (j11 true)
       ((Bl p0.fp v7).bind fun v18 =>
       AI ((decide (v18 < 0)))
        (j11 true)
        ((Bl p0.fp v7).bind fun v20 =>
        j11 (decide (v10 ≤ v20))))))))
   (j7 ())
def AR (N : Nat) (p0 : Aa) (j22 : Unit → Option Int) : Nat → Int → Option Int
 | 0, _ => none
 | n22 + 1, v22 =>
  AI ((decide (v22 < (p0.fd.length : Int))))
   ((Bl p0.fd v22).bind fun v25 =>
   (Dc N p0 v25).bind fun v26 =>
   AI ((v26 != 0))
    (some v26)
    (AR N p0 j22 n22 (wI .i64 (v22 + 1))))
   (j22 ())
def Bk (N : Nat) (p0 : Aa) : Option Int :=
 A7 (fun (v1 : Bool) =>
  AI v1
   (some 3)
   (A7 (fun (v4 : Bool) =>
    AI v4
     (some 6)
     (AX N p0 (fun (_ : Unit) =>
      AR N p0 (fun (_ : Unit) =>
       some 0) N 0) N 0))
   fun j4 =>
   AI (((p0.fk.length : Int) != (p0.fb.length : Int)))
    (j4 true)
    (j4 ((p0.fp.length : Int) != (p0.fb.length : Int)))))
 fun j1 =>
 AI ((decide (6 < (p0.fb.length : Int))))
  (j1 true)
  (j1 (decide (12 < (p0.fd.length : Int))))
def BQ (N : Nat) (p1 : List Int) (j4 : Unit → Option Int) : Nat → Int → Option Int
 | 0, _ => none
 | n4 + 1, v4 =>
  AI ((decide (v4 < (p1.length : Int))))
   (A7 (fun (v7 : Bool) =>
    AI v7
     (some 7)
     (BQ N p1 j4 n4 (wI .i64 (v4 + 1))))
   fun j7 =>
   (Bl p1 v4).bind fun v8 =>
   AI ((decide (v8 < 1)))
    (j7 true)
    ((Bl p1 v4).bind fun v10 =>
    j7 (decide (4 < v10))))
   (j4 ())
def CL (N : Nat) (p0 : Aa) (p1 : List Int) : Option Int :=
 (Bk N p0).bind fun v1 =>
 AI ((v1 != 0))
  (some v1)
  (AI (((p1.length : Int) != (p0.fb.length : Int)))
   (some 6)
   (BQ N p1 (fun (_ : Unit) =>
    some 0) N 0))
def Bu (N : Nat) (p0 : Aa) (j3 : ((List Int) × (List Int)) → Option (Ad × Int)) : Nat → ((List Int) × (List Int) × Int) → Option (Ad × Int)
 | 0, _ => none
 | n3 + 1, v3 =>
  AI ((decide (v3.2.2 < (p0.fb.length : Int))))
   ((Bl p0.fk v3.2.2).bind fun v6 =>
   (ER (v3.1.length + (([v6] : List Int)).length ≤ GZ)).bind fun _ =>
   (ER (v3.2.1.length + (([(-1)] : List Int)).length ≤ GZ)).bind fun _ =>
   Bu N p0 j3 n3 (v3.1 ++ (([v6] : List Int)), v3.2.1 ++ (([(-1)] : List Int)), (wI .i64 (v3.2.2 + 1))))
   (j3 (v3.1, v3.2.1))
def AU (N : Nat) (p0 : Aa) (j9 : ((List Int)) → Option (Ad × Int)) : Nat → ((List Int) × Int) → Option (Ad × Int)
 | 0, _ => none
 | n9 + 1, v9 =>
  AI ((decide (v9.2 < (p0.fd.length : Int))))
   (A7 (fun (v12 : Int) =>
    (ER (v9.1.length + (([v12] : List Int)).length ≤ GZ)).bind fun _ =>
    AU N p0 j9 n9 (v9.1 ++ (([v12] : List Int)), (wI .i64 (v9.2 + 1))))
   fun j12 =>
   (Bl p0.fd v9.2).bind fun v13 =>
   (AY N v13).bind fun v14 =>
   AI v14
    ((Bl p0.fd v9.2).bind fun v16 =>
    (Bl p0.fk v16.fj).bind fun v17 =>
    (ER (0 ≤ v17)).bind fun _ =>
    j12 (Dk .u8 1 v17))
    (j12 0))
   (j9 v9.1)
def Di (N : Nat) (p0 : Aa) : Option (Ad × Int) :=
 (Bk N p0).bind fun v1 =>
 AI ((v1 != 0))
  (some ((Ad.mk (([] : List Int)) (([] : List Int)) (([] : List Int))), v1))
  (Bu N p0 (fun (v4 : (List Int) × (List Int)) =>
   AU N p0 (fun (v10 : (List Int)) =>
    some ((Ad.mk v4.1 v4.2 v10), 0)) N (([] : List Int), 0)) N (([] : List Int), ([] : List Int), 0))
def BS (_ : Nat) (p0 : Ad) (p1 : Int) : Option Int :=
 (Bl p0.fh p1).bind fun v1 =>
 (ER (0 ≤ v1)).bind fun _ =>
 A7 (fun (v3 : Int) =>
  some v3)
 fun j3 =>
 (Bl p0.fe p1).bind fun v4 =>
 AI ((decide (0 ≤ v4)))
  ((Bl p0.fe p1).bind fun v6 =>
  (ER (0 ≤ v6)).bind fun _ =>
  j3 (KL .u8 ((Dk .u8 1 v1)) ((Dk .u8 1 v6))))
  (j3 (Dk .u8 1 v1))
def Bw (N : Nat) (p0 : Aa) (p1 : Ad) (j7 : Unit → Option Int) : Nat → Int → Option Int
 | 0, _ => none
 | n7 + 1, v7 =>
  AI ((decide (v7 < (p0.fb.length : Int))))
   (A7 (fun (v10 : Bool) =>
    AI v10
     (some 7)
     ((Bl p1.fh v7).bind fun v21 =>
     (Bl p1.fe v7).bind fun v22 =>
     AI ((v21 == v22))
      (some 1)
      (Bw N p0 p1 j7 n7 (wI .i64 (v7 + 1)))))
   fun j10 =>
   (Bl p1.fh v7).bind fun v11 =>
   AI ((decide (v11 < 0)))
    (j10 true)
    ((Bl p1.fh v7).bind fun v13 =>
    (Bl p0.fb v7).bind fun v14 =>
    AI ((decide (v14 ≤ v13)))
     (j10 true)
     ((Bl p1.fe v7).bind fun v16 =>
     AI ((decide (v16 < (-1))))
      (j10 true)
      ((Bl p1.fe v7).bind fun v18 =>
      (Bl p0.fb v7).bind fun v19 =>
      j10 (decide (v19 ≤ v18))))))
   (j7 ())
def Bo (N : Nat) (p0 : Aa) (p1 : Ad) (j24 : Unit → Option Int) : Nat → Int → Option Int
 | 0, _ => none
 | n24 + 1, v24 =>
  AI ((decide (v24 < (p0.fd.length : Int))))
   ((Bl p0.fd v24).bind fun v27 =>
   (Bl p0.fb v27.fj).bind fun v28 =>
   (ER (0 ≤ v28)).bind fun _ =>
   A7 (fun (v30 : Bool) =>
    AI v30
     (some 1)
     (Bo N p0 p1 j24 n24 (wI .i64 (v24 + 1))))
   fun j30 =>
   (AY N v27).bind fun v31 =>
   AI ((!v31))
    ((Bl p1.ff v24).bind fun v33 =>
    AI ((v33 != 0))
     (j30 true)
     ((AY N v27).bind fun v35 =>
     AI v35
      ((Bl p1.ff v24).bind fun v37 =>
      AI (((Cc .u8 v37 ((wI .u8 ((Dk .u8 1 v28) - 1)))) != 0))
       (j30 true)
       ((BS N p1 v27.fj).bind fun v39 =>
       (Bl p1.ff v24).bind fun v40 =>
       j30 ((Cc .u8 v39 v40) != 0)))
      (j30 false)))
    ((AY N v27).bind fun v41 =>
    AI v41
     ((Bl p1.ff v24).bind fun v43 =>
     AI (((Cc .u8 v43 ((wI .u8 ((Dk .u8 1 v28) - 1)))) != 0))
      (j30 true)
      ((BS N p1 v27.fj).bind fun v45 =>
      (Bl p1.ff v24).bind fun v46 =>
      j30 ((Cc .u8 v45 v46) != 0)))
     (j30 false)))
   (j24 ())
def Cx (N : Nat) (p0 : Aa) (p1 : Ad) : Option Int :=
 (Bk N p0).bind fun v1 =>
 AI ((v1 != 0))
  (some v1)
  (A7 (fun (v3 : Bool) =>
   AI v3
    (some 6)
    (Bw N p0 p1 (fun (_ : Unit) =>
     Bo N p0 p1 (fun (_ : Unit) =>
      some 0) N 0) N 0))
  fun j3 =>
  AI (((p1.fh.length : Int) != (p0.fb.length : Int)))
   (j3 true)
   (AI (((p1.fe.length : Int) != (p0.fb.length : Int)))
    (j3 true)
    (j3 ((p1.ff.length : Int) != (p0.fd.length : Int)))))
def Dg (_ : Nat) (p0 : Am) : Option Bool :=
 A7 (fun (v1 : Bool) =>
  some v1)
 fun j1 =>
 AI ((decide (1 ≤ p0.fa)))
  (AI ((decide (p0.fa ≤ 4)))
   (AI ((decide (0 ≤ p0.fm)))
    (AI ((decide (0 ≤ p0.fq)))
     (AI ((p0.fa == 1))
      (j1 true)
      (j1 (p0.fq == 0)))
     (j1 false))
    (j1 false))
   (j1 false))
  (j1 false)
def CZ (_ : Nat) (p0 : Int) (p1 : Int) : Option Bool :=
 (ER (0 ≤ p1)).bind fun _ =>
 some (((Fi .u8 ((Fp .u8 p0 p1)) 1) == 1))
def Bm (N : Nat) (p0 : Aa) (p2 : Am) (j12 : ((List Int)) → Option (Ad × Bool)) : Nat → ((List Int) × Int) → Option (Ad × Bool)
 | 0, _ => none
 | n12 + 1, v12 =>
  AI ((decide (v12.2 < (p0.fd.length : Int))))
   (A7 (fun (v15 : (List Int)) =>
    Bm N p0 p2 j12 n12 (v15, (wI .i64 (v12.2 + 1))))
   fun j15 =>
   A7 (fun (v16 : Bool) =>
    AI v16
     ((Bl v12.1 v12.2).bind fun v22 =>
     (ER (0 ≤ p2.fq)).bind fun _ =>
     (Bl v12.1 v12.2).bind fun _ =>
     j15 (v12.1.set ((v12.2).toNat) ((KL .u8 v22 ((Dk .u8 1 p2.fq))))))
     (j15 v12.1))
   fun j16 =>
   (Bl p0.fd v12.2).bind fun v17 =>
   AI ((v17.fj == p2.fm))
    ((Bl p0.fd v12.2).bind fun v19 =>
    (AY N v19).bind fun v20 =>
    j16 v20)
    (j16 false))
   (j12 v12.1)
def Bb (N : Nat) (p0 : Aa) (p1 : Ad) (p2 : Am) (v32 : AG) (v35 : Int) (j38 : Unit → Option (Ad × Bool)) : Nat → Int → Option (Ad × Bool)
 | 0, _ => none
 | n38 + 1, v38 =>
  (Bl p0.fb v32.fj).bind fun v40 =>
  AI ((decide (v38 < v40)))
   (A7 (fun (v42 : Bool) =>
    A7 (fun (v47 : Bool) =>
     AI v47
      (some ((Ad.mk (([] : List Int)) (([] : List Int)) (([] : List Int))), false))
      (Bb N p0 p1 p2 v32 v35 j38 n38 (wI .i64 (v38 + 1))))
    fun j47 =>
    AI v42
     (AI ((v32.fa == 4))
      ((Bl v32.fu v38).bind fun v50 =>
      (Bl p1.fh v32.fj).bind fun v51 =>
      (Bl v50 v51).bind fun v52 =>
      j47 (!v52))
      (j47 false))
     (j47 false))
   fun j42 =>
   (Bl p1.ff p2.fm).bind fun v43 =>
   (CZ N v43 v38).bind fun v44 =>
   AI v44
    ((CZ N v35 v38).bind fun v46 =>
    j42 (!v46))
    (j42 false))
   (j38 ())
def Cw (N : Nat) (p0 : Aa) (p1 : Ad) (p2 : Am) : Option (Ad × Bool) :=
 (ER ((([] : List Int)).length + p1.fh.length ≤ GZ)).bind fun _ =>
 (ER ((([] : List Int)).length + p1.fe.length ≤ GZ)).bind fun _ =>
 (ER ((([] : List Int)).length + p1.ff.length ≤ GZ)).bind fun _ =>
 A7 (fun (v4 : (List Int) × (List Int) × (List Int)) =>
  some ((Ad.mk v4.1 v4.2.1 v4.2.2), true))
 fun j4 =>
 AI ((p2.fa == 1))
  (A7 (fun (v6 : Bool) =>
   AI v6
    (some ((Ad.mk (([] : List Int)) (([] : List Int)) (([] : List Int))), false))
    ((Bl ((([] : List Int)) ++ p1.fe) p2.fm).bind fun _ =>
    Bm N p0 p2 (fun (v13 : (List Int)) =>
     j4 ((([] : List Int)) ++ p1.fh, ((([] : List Int)) ++ p1.fe).set ((p2.fm).toNat) p2.fq, v13)) N ((([] : List Int)) ++ p1.ff, 0)))
  fun j6 =>
  (Bl p1.fe p2.fm).bind fun v7 =>
  AI ((decide (0 ≤ v7)))
   (j6 true)
   ((Bl p1.fh p2.fm).bind fun v9 =>
   j6 (p2.fq == v9)))
  (AI ((p2.fa == 2))
   ((Bl p1.fe p2.fm).bind fun v26 =>
   AI ((decide (v26 < 0)))
    (some ((Ad.mk (([] : List Int)) (([] : List Int)) (([] : List Int))), false))
    ((Bl p1.fe p2.fm).bind fun v28 =>
    (Bl ((([] : List Int)) ++ p1.fh) p2.fm).bind fun _ =>
    (Bl ((([] : List Int)) ++ p1.fe) p2.fm).bind fun _ =>
    j4 (((([] : List Int)) ++ p1.fh).set ((p2.fm).toNat) v28, ((([] : List Int)) ++ p1.fe).set ((p2.fm).toNat) ((-1)), (([] : List Int)) ++ p1.ff)))
   (AI ((p2.fa == 3))
    ((Bl p0.fd p2.fm).bind fun v32 =>
    (AY N v32).bind fun v33 =>
    AI ((!v33))
     (some ((Ad.mk (([] : List Int)) (([] : List Int)) (([] : List Int))), false))
     ((BS N p1 v32.fj).bind fun v35 =>
     (Bl p1.ff p2.fm).bind fun v36 =>
     AI ((v36 == v35))
      (some ((Ad.mk (([] : List Int)) (([] : List Int)) (([] : List Int))), false))
      (Bb N p0 p1 p2 v32 v35 (fun (_ : Unit) =>
       (Bl ((([] : List Int)) ++ p1.ff) p2.fm).bind fun _ =>
       j4 ((([] : List Int)) ++ p1.fh, (([] : List Int)) ++ p1.fe, ((([] : List Int)) ++ p1.ff).set ((p2.fm).toNat) v35)) N 0)))
    ((Bl p1.fe p2.fm).bind fun v55 =>
    AI ((decide (v55 < 0)))
     (some ((Ad.mk (([] : List Int)) (([] : List Int)) (([] : List Int))), false))
     ((Bl ((([] : List Int)) ++ p1.fe) p2.fm).bind fun _ =>
     j4 ((([] : List Int)) ++ p1.fh, ((([] : List Int)) ++ p1.fe).set ((p2.fm).toNat) ((-1)), (([] : List Int)) ++ p1.ff)))))
def Dh (N : Nat) (p0 : Aa) (p1 : Ad) (p2 : Am) : Option (Ad × Int) :=
 (Cx N p0 p1).bind fun v1 =>
 AI ((v1 != 0))
  (some ((Ad.mk (([] : List Int)) (([] : List Int)) (([] : List Int))), v1))
  ((Dg N p2).bind fun v3 =>
  AI ((!v3))
   (some ((Ad.mk (([] : List Int)) (([] : List Int)) (([] : List Int))), 1))
   (A7 (fun (v5 : Bool) =>
    AI v5
     (some ((Ad.mk (([] : List Int)) (([] : List Int)) (([] : List Int))), 4))
     (A7 (fun (v11 : Bool) =>
      AI v11
       (some ((Ad.mk (([] : List Int)) (([] : List Int)) (([] : List Int))), 4))
       ((Cw N p0 p1 p2).bind fun v15 =>
       AI ((!v15.2))
        (some ((Ad.mk (([] : List Int)) (([] : List Int)) (([] : List Int))), 11))
        (some (v15.1, 0))))
     fun j11 =>
     AI ((p2.fa == 1))
      ((Bl p0.fb p2.fm).bind fun v13 =>
      j11 (decide (v13 ≤ p2.fq)))
      (j11 false)))
   fun j5 =>
   AI ((p2.fa == 3))
    (AI ((decide ((p0.fd.length : Int) ≤ p2.fm)))
     (j5 true)
     (AI ((p2.fa != 3))
      (j5 (decide ((p0.fb.length : Int) ≤ p2.fm)))
      (j5 false)))
    (AI ((p2.fa != 3))
     (j5 (decide ((p0.fb.length : Int) ≤ p2.fm)))
     (j5 false))))
def Cj (N : Nat) (p0 : Aa) (p2 : List Am) (j3 : ((List Ad)) → Option ((List Ad) × Int × Int)) : Nat → ((List Ad) × Int) → Option ((List Ad) × Int × Int)
 | 0, _ => none
 | n3 + 1, v3 =>
  AI ((decide (v3.2 < (p2.length : Int))))
   ((Bl v3.1 v3.2).bind fun v6 =>
   (Bl p2 v3.2).bind fun v7 =>
   (Dh N p0 v6 v7).bind fun v8 =>
   AI ((v8.2 != 0))
    (some (([] : List Ad), v3.2, v8.2))
    ((ER (v3.1.length + (([v8.1] : List Ad)).length ≤ GZ)).bind fun _ =>
    Cj N p0 p2 j3 n3 (v3.1 ++ (([v8.1] : List Ad)), (wI .i64 (v3.2 + 1)))))
   (j3 v3.1)
def C1 (N : Nat) (p0 : Aa) (p1 : Ad) (p2 : List Am) : Option ((List Ad) × Int × Int) :=
 (Cx N p0 p1).bind fun v1 =>
 AI ((v1 != 0))
  (some (([] : List Ad), 0, v1))
  (Cj N p0 p2 (fun (v4 : (List Ad)) =>
   some (v4, (p2.length : Int), 0)) N (([p1] : List Ad), 0))
def B3 (N : Nat) (p1 : List Am) (j3 : Unit → Option Int) : Nat → Int → Option Int
 | 0, _ => none
 | n3 + 1, v3 =>
  AI ((decide (v3 < (p1.length : Int))))
   ((Bl p1 v3).bind fun v6 =>
   AI ((v6.fa == 4))
    (some 1)
    (B3 N p1 j3 n3 (wI .i64 (v3 + 1))))
   (j3 ())
def C9 (N : Nat) (p0 : Aa) (p1 : List Am) : Option Int :=
 (Di N p0).bind fun v1 =>
 AI ((v1.2 != 0))
  (some v1.2)
  (B3 N p1 (fun (_ : Unit) =>
   (C1 N p0 v1.1 p1).bind fun v8 =>
   some v8.2.2) N 0)
def Cm (_ : Nat) (p0 : Ab) : Option ((List Int)) :=
 AI ((p0.fa == 1))
  (some (([p0.fy, p0.fA, p0.fF] : List Int)))
  (AI ((p0.fa == 6))
   (some (([p0.ft, p0.fq, p0.fJ] : List Int)))
   (AI ((p0.fa == 7))
    (some (([p0.fK, p0.fv] : List Int)))
    (some (([p0.fm, p0.fv] : List Int)))))
def Cg (_ : Nat) (p0 : Int) (p1 : Int) (p2 : List Int) : Option Ab :=
 A7 (fun (v1 : Int × Int × Int × Int × Int × Int × Int × Int × Int) =>
  some ((Ab.mk p0 p1 v1.1 v1.2.1 v1.2.2.1 v1.2.2.2.1 v1.2.2.2.2.1 v1.2.2.2.2.2.1 v1.2.2.2.2.2.2.1 v1.2.2.2.2.2.2.2.1 v1.2.2.2.2.2.2.2.2)))
 fun j1 =>
 AI ((p1 == 1))
  ((Bl p2 0).bind fun v3 =>
  (Bl p2 1).bind fun v4 =>
  (Bl p2 2).bind fun v5 =>
  j1 (v3, v4, v5, 0, 0, 0, 0, 0, 0))
  (AI ((p1 == 6))
   ((Bl p2 0).bind fun v7 =>
   (Bl p2 1).bind fun v8 =>
   (Bl p2 2).bind fun v9 =>
   j1 (0, 0, 0, 0, 0, v9, v7, v8, 0))
   (AI ((p1 == 7))
    ((Bl p2 0).bind fun v11 =>
    (Bl p2 1).bind fun v12 =>
    j1 (0, 0, 0, 0, v12, 0, 0, 0, v11))
    ((Bl p2 0).bind fun v13 =>
    (Bl p2 1).bind fun v14 =>
    j1 (0, 0, 0, v13, v14, 0, 0, 0, 0))))
def BN (N : Nat) (v5 : (List Int)) (j6 : Unit → Option Bool) : Nat → Int → Option Bool
 | 0, _ => none
 | n6 + 1, v6 =>
  AI ((decide (v6 < (v5.length : Int))))
   ((Bl v5 v6).bind fun v9 =>
   AI ((decide (v9 < 0)))
    (some false)
    (BN N v5 j6 n6 (wI .i64 (v6 + 1))))
   (j6 ())
def C8 (N : Nat) (p0 : Ab) : Option Bool :=
 A7 (fun (v1 : Bool) =>
  AI v1
   (some false)
   ((Cm N p0).bind fun v5 =>
   BN N v5 (fun (_ : Unit) =>
    (Cg N p0.fi p0.fa v5).bind fun v11 =>
    some (((v11.fi == p0.fi) && ((v11.fa == p0.fa) && ((v11.fy == p0.fy) && ((v11.fA == p0.fA) && ((v11.fF == p0.fF) && ((v11.fm == p0.fm) && ((v11.fv == p0.fv) && ((v11.fJ == p0.fJ) && ((v11.ft == p0.ft) && ((v11.fq == p0.fq) && ((v11.fK == p0.fK) && true))))))))))))) N 0))
 fun j1 =>
 AI ((decide (p0.fa < 1)))
  (j1 true)
  (AI ((decide (7 < p0.fa)))
   (j1 true)
   (j1 (decide (p0.fi < 0))))
def B2 (N : Nat) (p0 : List Ab) (j2 : Unit → Option Int) : Nat → Int → Option Int
 | 0, _ => none
 | n2 + 1, v2 =>
  AI ((decide (v2 < (p0.length : Int))))
   (A7 (fun (v5 : Bool) =>
    AI v5
     (some 1)
     (B2 N p0 j2 n2 (wI .i64 (v2 + 1))))
   fun j5 =>
   (Bl p0 v2).bind fun v6 =>
   (C8 N v6).bind fun v7 =>
   AI ((!v7))
    (j5 true)
    (AI ((decide (0 < v2)))
     ((Bl p0 v2).bind fun v10 =>
     (Bl p0 ((wI .i64 (v2 - 1)))).bind fun v11 =>
     j5 (decide (v10.fi < v11.fi)))
     (j5 false)))
   (j2 ())
def De (N : Nat) (p0 : List Ab) : Option Int :=
 AI ((decide (10000 < (p0.length : Int))))
  (some 3)
  (B2 N p0 (fun (_ : Unit) =>
   some 0) N 0)
def CC (N : Nat) (p0 : Aa) (p1 : List Int) (p2 : List Am) (p3 : List Ab) : Option Int :=
 (CL N p0 p1).bind fun v1 =>
 AI ((v1 != 0))
  (some v1)
  ((C9 N p0 p2).bind fun v3 =>
  AI ((v3 != 0))
   (some v3)
   ((De N p3).bind fun v5 =>
   some v5))
def A3 (_ : Nat) (p0 : List Ab) : Option ((List Ab)) :=
 (ER ((([] : List Ab)).length + p0.length ≤ GZ)).bind fun _ =>
 some ((([] : List Ab)) ++ p0)
def B8 (N : Nat) (p0 : BK) (p1 : Int) : Option Bool :=
 A7 (fun (v1 : Bool) =>
  AI v1
   ((Df N).bind fun v8 =>
   some v8)
   ((ER ((wI .i64 ((p0.fC.length : Int) + 1)) ≠ 0)).bind fun _ =>
   (ER ((0 : Int) ≤ (Int.tmod ((wI .i64 p1)) ((wI .i64 ((p0.fC.length : Int) + 1)))) ∧ 0 ≤ ((Int.tmod ((wI .i64 p1)) ((wI .i64 ((p0.fC.length : Int) + 1))))).toNat ∧ ((Int.tmod ((wI .i64 p1)) ((wI .i64 ((p0.fC.length : Int) + 1))))).toNat ≤ p0.fC.length)).bind fun _ =>
   (A3 N (((p0.fC.drop 0).take (((Int.tmod ((wI .i64 p1)) ((wI .i64 ((p0.fC.length : Int) + 1))))).toNat - 0)))).bind fun v11 =>
   (Cr N ((Aa.mk p0.fc.fb p0.fc.fk p0.fc.fp p0.fc.fd)) p0.fM p0.fr v11).bind fun v12 =>
   (A3 N p0.fC).bind fun v13 =>
   (Cr N ((Aa.mk p0.fc.fb p0.fc.fk p0.fc.fp p0.fc.fd)) p0.fM p0.fr v13).bind fun v14 =>
   AI ((v12.2.2 == 0))
    (A7 (fun (v16 : Bool) =>
     some v16)
    fun j16 =>
    AI ((v14.2.2 == 0))
     (AI ((v12.1 == v14.1))
      (j16 (v12.2.1 == v14.2.1))
      (j16 false))
     (j16 false))
    (A7 (fun (v19 : Bool) =>
     some v19)
    fun j19 =>
    AI ((v12.2.2 == 15))
     (AI ((v14.2.2 == 15))
      (j19 true)
      (AI ((v14.2.2 == 0))
       (j19 (decide ((Int.tmod ((wI .i64 p1)) ((wI .i64 ((p0.fC.length : Int) + 1)))) ≤ v14.1)))
       (j19 false)))
     (j19 false))))
 fun j1 =>
 (Df N).bind fun v2 =>
 AI ((!v2))
  (j1 true)
  ((B7 N ((BK.mk ((Aa.mk p0.fc.fb p0.fc.fk p0.fc.fp p0.fc.fd)) p0.fM p0.fr p0.fC))).bind fun v4 =>
  AI ((!v4))
   (j1 true)
   ((CC N ((Aa.mk p0.fc.fb p0.fc.fk p0.fc.fp p0.fc.fd)) p0.fM p0.fr p0.fC).bind fun v6 =>
   j1 (v6 != 0)))
def G6 (_ : Nat) (p0 : Ab) : Option Bool :=
 A7 (fun (v1 : Bool) =>
  some v1)
 fun j1 =>
 AI ((decide (2 ≤ p0.fa)))
  (j1 (decide (p0.fa ≤ 5)))
  (j1 false)
def Gp (_ : Nat) (p0 : Aa) (p1 : Ab) : Option Bool :=
 AI ((p1.fa != 1))
  (some false)
  (AI ((decide ((p0.fd.length : Int) ≤ p1.fy)))
   (some true)
   ((Bl p0.fd p1.fy).bind fun v3 =>
   A7 (fun (v4 : Bool) =>
    some v4)
   fun j4 =>
   (Bl p0.fb v3.fj).bind fun v5 =>
   AI ((decide (v5 ≤ p1.fA)))
    (j4 true)
    ((Bl p0.fb v3.fB).bind fun v7 =>
    AI ((decide (v7 ≤ p1.fF)))
     (j4 true)
     ((Bl v3.fD p1.fA).bind fun v9 =>
     (Bl v9 p1.fF).bind fun v10 =>
     j4 (!v10)))))
def CW (N : Nat) (p0 : List Int) (j1 : Unit → Option Int) : Nat → (Int × Int) → Option Int
 | 0, _ => none
 | n1 + 1, v1 =>
  AI ((decide (v1.2 < (p0.length : Int))))
   ((Bl p0 v1.2).bind fun v4 =>
   AI ((decide (v1.1 < v4)))
    (some v1.2)
    ((Bl p0 v1.2).bind fun v6 =>
    CW N p0 j1 n1 ((wI .i64 (v1.1 - v6)), (wI .i64 (v1.2 + 1)))))
   (j1 ())
def Eh (N : Nat) (p0 : List Int) (p1 : Int) : Option Int :=
 CW N p0 (fun (_ : Unit) =>
  some ((-1))) N (p1, 0)
def Eg (_ : Nat) (p0 : Ad) (p1 : Int) (p2 : Int) : Option Bool :=
 A7 (fun (v1 : Bool) =>
  some v1)
 fun j1 =>
 AI ((decide (0 ≤ p2)))
  ((Bl p0.fh p1).bind fun v3 =>
  AI ((p2 == v3))
   (j1 true)
   ((Bl p0.fe p1).bind fun v5 =>
   j1 (p2 == v5)))
  (j1 false)
def Kv {α : Type} (w : α → Prop) (xs : List α) : Prop := ∀ x, x ∈ xs → w x
def Gb (n : Int) : Prop := (Lit.int .i64 n).wf = true
def O0 (n : Int) : Prop := (Lit.int .u8 n).wf = true
def J4 (x : AG) : Prop := Gb x.fa ∧ Gb x.fj ∧ Gb x.fB ∧ (fun _ => True) x.fQ ∧ (Kv (Kv (fun _ => True))) x.fD ∧ (Kv (Kv (fun _ => True))) x.fu ∧ True
def KA (x : Aa) : Prop := (Kv Gb) x.fb ∧ (Kv Gb) x.fk ∧ (Kv Gb) x.fp ∧ (Kv J4) x.fd ∧ True
def LO (x : Am) : Prop := Gb x.fa ∧ Gb x.fm ∧ Gb x.fq ∧ True
def IF (x : Ab) : Prop := Gb x.fi ∧ Gb x.fa ∧ Gb x.fy ∧ Gb x.fA ∧ Gb x.fF ∧ Gb x.fm ∧ Gb x.fv ∧ Gb x.fJ ∧ Gb x.ft ∧ Gb x.fq ∧ Gb x.fK ∧ True
def Fb (x : BK) : Prop := KA x.fc ∧ (Kv Gb) x.fM ∧ (Kv LO) x.fr ∧ (Kv IF) x.fC ∧ True
open Go.RowKit
open Go.Proofs
abbrev Cy (x : AG) : List C := [iC x.fa, iC x.fj, iC x.fB, .pure (.val (.bool x.fQ)), sC (x.fD.map (KV eB)), sC (x.fu.map (KV eB))]
abbrev Al (x : Aa) : List C := [sC (x.fb.map As), sC (x.fk.map As), sC (x.fp.map As), sC (x.fd.map Bv)]
abbrev B1 (x : Am) : List C := [iC x.fa, iC x.fm, iC x.fq]
abbrev Br (x : Ab) : List C := [iC x.fi, iC x.fa, iC x.fy, iC x.fA, iC x.fF, iC x.fm, iC x.fv, iC x.fJ, iC x.ft, iC x.fq, iC x.fK]
abbrev Gd (x : BK) : List C := [sC (x.fc.fb.map As), sC (x.fc.fk.map As), sC (x.fc.fp.map As), sC (x.fc.fd.map Bv), sC (x.fM.map As), sC (x.fr.map AM), sC (x.fC.map AJ)]
abbrev Be (x : Ad) : List C := [sC (x.fh.map As), sC (x.fe.map As), sC (x.ff.map Dw)]
abbrev Aw (x : Ah) : List C := [sC (x.fc.fb.map As), sC (x.fc.fk.map As), sC (x.fc.fp.map As), sC (x.fc.fd.map Bv), sC (x.fr.map AM), iC x.fi, iC x.fw, sC (x.fg.fh.map As), sC (x.fg.fe.map As), sC (x.fg.ff.map Dw)]
theorem Ay : Tryz.prog.follows .mixedOrders = true := by kernel_rfl
theorem wq {X : F6} {y : Code} {id : Nat} {ops : Array Oper} {dr : Bool} {Q : Exit → St → Prop} {st : St} {n : Nat} (hn : ops.size = n) (h : A1 uS X ops dr (fun st' => W uS X y Q st') n 0 st []) : W uS X (.seq (.region id ops dr) y) Q st := W5 Ay hn h
theorem wp {X : F6} {y z : Code} {id : Nat} {ops : Array Oper} {dr : Bool} {Q : Exit → St → Prop} {st : St} {n : Nat} (hn : ops.size = n) (h : A1 uS X ops dr (fun st' => W uS X y (Mv (W uS X z Q) Q) st') n 0 st []) : W uS X (.seq (.seq (.region id ops dr) y) z) Q st := AO (W5 Ay hn h)
theorem E5 : D1 uS 110 false = true := by kernel_rfl
theorem EP : D1 uS 112 true = true := by kernel_rfl
theorem Hc : D1 uS 113 false = true := by kernel_rfl
theorem JT : D1 uS 125 false = true := by kernel_rfl
theorem TT : D1 uS 164 false = true := by kernel_rfl
theorem Ho : D1 uS 2 false = true := by kernel_rfl
theorem Bc : D1 uS 22 false = true := by kernel_rfl
theorem EU : D1 uS 23 false = true := by kernel_rfl
theorem DS : D1 uS 25 true = true := by kernel_rfl
theorem O1 : D1 uS 26 false = true := by kernel_rfl
theorem RZ : D1 uS 27 false = true := by kernel_rfl
theorem WC : D1 uS 29 true = true := by kernel_rfl
theorem Ba : D1 uS 3 false = true := by kernel_rfl
theorem F8 : D1 uS 37 true = true := by kernel_rfl
theorem GQ : D1 uS 38 false = true := by kernel_rfl
theorem TV : D1 uS 4 false = true := by kernel_rfl
theorem B0 : D1 uS 40 true = true := by kernel_rfl
theorem Jh : D1 uS 67 true = true := by kernel_rfl
theorem W0 : D1 uS 9 false = true := by kernel_rfl
theorem Rq : R1 uS 209 8 9 = true := by kernel_rfl
theorem Nr : FV uS 113 1 = true := by kernel_rfl
theorem QN : FV uS 3 8 = true := by kernel_rfl
theorem VX : FV uS 37 88 = true := by kernel_rfl
theorem TW : FV uS 40 72 = true := by kernel_rfl
theorem DH : Bx uS 112 0 0 = true := by kernel_rfl
theorem Cf : Bx uS 112 1 1 = true := by kernel_rfl
theorem GJ : Bx uS 112 2 2 = true := by kernel_rfl
theorem OM : Bx uS 112 3 3 = true := by kernel_rfl
theorem GH : Bx uS 112 4 4 = true := by kernel_rfl
theorem DT : Bx uS 112 5 5 = true := by kernel_rfl
theorem OQ : Bx uS 166 0 0 = true := by kernel_rfl
theorem Oi : Bx uS 166 1 1 = true := by kernel_rfl
theorem N9 : Bx uS 166 2 2 = true := by kernel_rfl
theorem N0 : Bx uS 166 3 3 = true := by kernel_rfl
theorem BB : Bx uS 25 0 0 = true := by kernel_rfl
theorem FJ : Bx uS 25 1 1 = true := by kernel_rfl
theorem IJ : Bx uS 25 2 2 = true := by kernel_rfl
theorem BF : Bx uS 25 3 3 = true := by kernel_rfl
theorem KT : Bx uS 29 0 0 = true := by kernel_rfl
theorem KR : Bx uS 29 1 4 = true := by kernel_rfl
theorem K0 : Bx uS 29 2 5 = true := by kernel_rfl
theorem JM : Bx uS 29 3 6 = true := by kernel_rfl
theorem Gw : Bx uS 37 0 0 = true := by kernel_rfl
theorem DQ : Bx uS 37 1 1 = true := by kernel_rfl
theorem Jz : Bx uS 37 10 10 = true := by kernel_rfl
theorem G5 : Bx uS 37 2 2 = true := by kernel_rfl
theorem Hb : Bx uS 37 3 3 = true := by kernel_rfl
theorem HU : Bx uS 37 4 4 = true := by kernel_rfl
theorem JU : Bx uS 37 5 5 = true := by kernel_rfl
theorem Fe : Bx uS 37 6 6 = true := by kernel_rfl
theorem IL : Bx uS 37 7 7 = true := by kernel_rfl
theorem HJ : Bx uS 37 8 8 = true := by kernel_rfl
theorem Jn : Bx uS 37 9 9 = true := by kernel_rfl
theorem CV : Bx uS 40 0 0 = true := by kernel_rfl
theorem BO : Bx uS 40 1 1 = true := by kernel_rfl
theorem CE : Bx uS 40 2 2 = true := by kernel_rfl
theorem Dl : Bx uS 67 0 0 = true := by kernel_rfl
theorem Dy : Bx uS 67 1 1 = true := by kernel_rfl
theorem Fd : Bx uS 67 2 2 = true := by kernel_rfl
theorem Nm : Bx uS 81 0 0 = true := by kernel_rfl
theorem M7 : Bx uS 81 1 4 = true := by kernel_rfl
theorem II : Bx uS 81 2 5 = true := by kernel_rfl
theorem G9 : Bx uS 81 3 6 = true := by kernel_rfl
theorem JI : Bx uS 81 4 7 = true := by kernel_rfl
theorem Vz : Az uS 101 = true := by kernel_rfl
theorem P6 : Az uS 102 = true := by kernel_rfl
theorem VZ : Az uS 103 = true := by kernel_rfl
theorem VD : Az uS 106 = true := by kernel_rfl
theorem VK : Az uS 107 = true := by kernel_rfl
theorem U1 : Az uS 108 = true := by kernel_rfl
theorem Wc : Az uS 109 = true := by kernel_rfl
theorem VR : Az uS 11 = true := by kernel_rfl
theorem VW : Az uS 110 = true := by kernel_rfl
theorem Vg : Az uS 111 = true := by kernel_rfl
theorem VG : Az uS 112 = true := by kernel_rfl
theorem Vi : Az uS 113 = true := by kernel_rfl
theorem VP : Az uS 114 = true := by kernel_rfl
theorem Rr : Az uS 115 = true := by kernel_rfl
theorem Vy : Az uS 116 = true := by kernel_rfl
theorem Q8 : Az uS 117 = true := by kernel_rfl
theorem UU : Az uS 118 = true := by kernel_rfl
theorem TI : Az uS 119 = true := by kernel_rfl
theorem WD : Az uS 12 = true := by kernel_rfl
theorem Tx : Az uS 120 = true := by kernel_rfl
theorem Vj : Az uS 121 = true := by kernel_rfl
theorem Vt : Az uS 122 = true := by kernel_rfl
theorem V6 : Az uS 123 = true := by kernel_rfl
theorem TM : Az uS 125 = true := by kernel_rfl
theorem UT : Az uS 127 = true := by kernel_rfl
theorem SB : Az uS 13 = true := by kernel_rfl
theorem Ve : Az uS 14 = true := by kernel_rfl
theorem TP : Az uS 143 = true := by kernel_rfl
theorem Vs : Az uS 144 = true := by kernel_rfl
theorem TR : Az uS 145 = true := by kernel_rfl
theorem VN : Az uS 147 = true := by kernel_rfl
theorem U4 : Az uS 148 = true := by kernel_rfl
theorem Rb : Az uS 149 = true := by kernel_rfl
theorem V1 : Az uS 150 = true := by kernel_rfl
theorem Tu : Az uS 151 = true := by kernel_rfl
theorem Tt : Az uS 152 = true := by kernel_rfl
theorem TC : Az uS 153 = true := by kernel_rfl
theorem TX : Az uS 154 = true := by kernel_rfl
theorem VE : Az uS 155 = true := by kernel_rfl
theorem UV : Az uS 156 = true := by kernel_rfl
theorem Vb : Az uS 157 = true := by kernel_rfl
theorem WH : Az uS 16 = true := by kernel_rfl
theorem Vl : Az uS 173 = true := by kernel_rfl
theorem VU : Az uS 174 = true := by kernel_rfl
theorem U3 : Az uS 175 = true := by kernel_rfl
theorem Va : Az uS 176 = true := by kernel_rfl
theorem Vd : Az uS 177 = true := by kernel_rfl
theorem Vk : Az uS 178 = true := by kernel_rfl
theorem VC : Az uS 179 = true := by kernel_rfl
theorem Wb : Az uS 180 = true := by kernel_rfl
theorem Vp : Az uS 189 = true := by kernel_rfl
theorem Wn : Az uS 19 = true := by kernel_rfl
theorem UY : Az uS 190 = true := by kernel_rfl
theorem VL : Az uS 191 = true := by kernel_rfl
theorem V0 : Az uS 192 = true := by kernel_rfl
theorem VJ : Az uS 193 = true := by kernel_rfl
theorem TD : Az uS 197 = true := by kernel_rfl
theorem UZ : Az uS 198 = true := by kernel_rfl
theorem Wh : Az uS 199 = true := by kernel_rfl
theorem V8 : Az uS 200 = true := by kernel_rfl
theorem VF : Az uS 22 = true := by kernel_rfl
theorem WL : Az uS 23 = true := by kernel_rfl
theorem WM : Az uS 33 = true := by kernel_rfl
theorem WR : Az uS 34 = true := by kernel_rfl
theorem WX : Az uS 35 = true := by kernel_rfl
theorem WS : Az uS 39 = true := by kernel_rfl
theorem Wm : Az uS 40 = true := by kernel_rfl
theorem T7 : Az uS 43 = true := by kernel_rfl
theorem Wz : Az uS 44 = true := by kernel_rfl
theorem WP : Az uS 45 = true := by kernel_rfl
theorem Ww : Az uS 46 = true := by kernel_rfl
theorem WV : Az uS 47 = true := by kernel_rfl
theorem Uq : Az uS 55 = true := by kernel_rfl
theorem Pa : Az uS 56 = true := by kernel_rfl
theorem T6 : Az uS 57 = true := by kernel_rfl
theorem WQ : Az uS 58 = true := by kernel_rfl
theorem Te : Az uS 59 = true := by kernel_rfl
theorem Wq : Az uS 62 = true := by kernel_rfl
theorem Wx : Az uS 64 = true := by kernel_rfl
theorem WA : Az uS 66 = true := by kernel_rfl
theorem WW : Az uS 70 = true := by kernel_rfl
theorem WO : Az uS 71 = true := by kernel_rfl
theorem U8 : Az uS 72 = true := by kernel_rfl
theorem Wo : Az uS 73 = true := by kernel_rfl
theorem WB : Az uS 74 = true := by kernel_rfl
theorem WY : Az uS 76 = true := by kernel_rfl
theorem VS : Az uS 79 = true := by kernel_rfl
theorem SG : Az uS 80 = true := by kernel_rfl
theorem Vw : Az uS 81 = true := by kernel_rfl
theorem V3 : Az uS 82 = true := by kernel_rfl
theorem WE : Az uS 83 = true := by kernel_rfl
theorem WT : Az uS 86 = true := by kernel_rfl
theorem WN : Az uS 92 = true := by kernel_rfl
theorem TY : NM uS 214 .u64 = true := by kernel_rfl
theorem P0 : NM uS 234 .u64 = true := by kernel_rfl
theorem P1 : NM uS 242 .u32 = true := by kernel_rfl
theorem WI : NM uS 3 .i64 = true := by kernel_rfl
theorem VM : Tryz.prog.underlying 3 = some (.int .i64) := by kernel_rfl
theorem Pb : Tryz.prog.underlying 164 = some (.map 3 3) := by kernel_rfl
theorem Vv : Gx uS 166 = some [(0, 1), (1, 1), (2, 1), (3, 1)] := by kernel_rfl
theorem Ws : Gx uS 25 = some [(0, 1), (1, 1), (2, 1), (3, 1)] := by kernel_rfl
theorem Qu : Gx uS 37 = some [(0, 1), (1, 1), (2, 1), (3, 1), (4, 1), (5, 1), (6, 1), (7, 1), (8, 1), (9, 1), (10, 1)] := by kernel_rfl
theorem Gt : Gx uS 40 = some [(0, 1), (1, 1), (2, 1)] := by kernel_rfl
theorem Um : Gx uS 67 = some [(0, 1), (1, 1), (2, 1)] := by kernel_rfl
theorem Vh : Gx uS 81 = some [(0, 4), (4, 1), (5, 1), (6, 1), (7, 3)] := by kernel_rfl
theorem Tv : Tm uS 37 = some [0, 0, 0, 0, 0, 0, 0, 0, 0, 0, 0] := by kernel_rfl
theorem DM : sliceB uS 110 125 = true := by kernel_rfl
theorem HF : sliceB uS 125 4 = true := by kernel_rfl
theorem Hn : sliceB uS 135 40 = true := by kernel_rfl
theorem Cd : sliceB uS 167 2 = true := by kernel_rfl
theorem AB : sliceB uS 22 3 = true := by kernel_rfl
theorem CP : sliceB uS 23 112 = true := by kernel_rfl
theorem GS : sliceB uS 26 67 = true := by kernel_rfl
theorem Eb : sliceB uS 27 37 = true := by kernel_rfl
theorem Dz : sliceB uS 38 113 = true := by kernel_rfl
theorem TQ : sliceB uS 89 9 = true := by kernel_rfl
theorem Tw : (Tryz.prog.underlying 214).isSome = true := by kernel_rfl
theorem Rn : (Tryz.prog.underlying 234).isSome = true := by kernel_rfl
theorem P5 : (Tryz.prog.underlying 242).isSome = true := by kernel_rfl
theorem W7 : (Tryz.prog.underlying 3).isSome = true := by kernel_rfl
theorem W4 : (Tryz.prog.underlying 5).isSome = true := by kernel_rfl
theorem M0 : KB uS 9 = true := by kernel_rfl
theorem BT : FZ uS 112 6 = true := by kernel_rfl
theorem DE : FZ uS 113 1 = true := by kernel_rfl
theorem JA : FZ uS 125 1 = true := by kernel_rfl
theorem H2 : FZ uS 2 1 = true := by kernel_rfl
theorem VY : FZ uS 209 8 = true := by kernel_rfl
theorem Vq : FZ uS 22 1 = true := by kernel_rfl
theorem DN : FZ uS 25 4 = true := by kernel_rfl
theorem Wt : FZ uS 29 7 = true := by kernel_rfl
theorem CK : FZ uS 3 1 = true := by kernel_rfl
theorem DB : FZ uS 37 11 = true := by kernel_rfl
theorem Wy : FZ uS 38 1 = true := by kernel_rfl
theorem UQ : FZ uS 4 1 = true := by kernel_rfl
theorem AQ : FZ uS 40 3 = true := by kernel_rfl
theorem Gs : FZ uS 67 3 = true := by kernel_rfl
theorem Wk : FZ uS 9 1 = true := by kernel_rfl
theorem Jo : Dm uS 112 = some (.agg #[.int .i64 0, .int .i64 0, .int .i64 0, .bool false, .slice none 0 0, .slice none 0 0]) := by kernel_rfl
theorem LS : Dm uS 113 = some (.int .u8 0) := by kernel_rfl
theorem VQ : Dm uS 166 = some (.agg #[.int .i64 0, .int .i64 0, .bool false, .map none]) := by kernel_rfl
theorem TE : Dm uS 2 = some (.int .i64 0) := by kernel_rfl
theorem TK : Dm uS 209 = some (.agg #[.string ⟨#[]⟩, .string ⟨#[]⟩, .string ⟨#[]⟩, .string ⟨#[]⟩, .string ⟨#[]⟩, .string ⟨#[]⟩, .string ⟨#[]⟩, .string ⟨#[]⟩]) := by kernel_rfl
theorem Wi : Dm uS 25 = some (.agg #[.slice none 0 0, .slice none 0 0, .slice none 0 0, .slice none 0 0]) := by kernel_rfl
theorem NY : Dm uS 3 = some (.int .i64 0) := by kernel_rfl
theorem IW : Dm uS 37 = some (.agg #[.int .i64 0, .int .i64 0, .int .i64 0, .int .i64 0, .int .i64 0, .int .i64 0, .int .i64 0, .int .i64 0, .int .i64 0, .int .i64 0, .int .i64 0]) := by kernel_rfl
theorem C7 : Dm uS 40 = some (.agg #[.slice none 0 0, .slice none 0 0, .slice none 0 0]) := by kernel_rfl
theorem QG : Dm uS 67 = some (.agg #[.int .i64 0, .int .i64 0, .int .i64 0]) := by kernel_rfl
theorem V5 : Dm uS 81 = some (.agg #[.slice none 0 0, .slice none 0 0, .slice none 0 0, .slice none 0 0, .slice none 0 0, .int .i64 0, .int .i64 0, .slice none 0 0, .slice none 0 0, .slice none 0 0]) := by kernel_rfl
theorem W9 : Dm uS 9 = some (.string ⟨#[]⟩) := by kernel_rfl
end Go.Lift
