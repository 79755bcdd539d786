/- Lemmas for AuditMixCardSaid, which YtfgobbnahihlfaaGreatDoorFinA4 proves. -/
import Derived.Test.YtfgobbnahihlfaaGreatDoorLift16
import Derived.ProofKit
import Derived.Shelf.SlSortCmp.NoneTotal
import Derived.MakeChecks
import Derived.Shelf.Strconv.Itoa3
import Derived.Shelf.Spec.TrailingZeros
import Derived.Shelf.SlLaysF
import Derived.Shelf.Strconv.Itoa4
import Derived.Laws.Runes
import Derived.Shelf.Strings.Builder1
import Derived.Deep.LoopGhost
import Derived.Deep.DeepFit
import Derived.Deep.Onto
import Derived.WalkKit
import Derived.Test.YtfgobbnahihlfaaGreatDoorProg
import Derived.KernelRfl
open Array renaming getElem?_append → zF5, getElem?_eq_none → vY, getElem?_eq_some_iff → zE4, length_toList → zC8, replicate → zD6
open Bool renaming and_eq_true → uU, and_eq_true_iff → zB9, false_eq_true → zE3, not_eq_true' → zC3, not_true → vG, or_eq_true → zB2, true_and → vJ
open List renaming all_cons → zB3, all_eq_true → uT, drop_eq_nil_of_le → vF, eq_nil_of_length_eq_zero → zA8, getElem?_append_left → zA0, getElem?_append_right → vX, getElem?_drop → zA9, getElem?_eq_getElem → vM, getElem?_map → uX, getElem?_take_of_lt → vK, length → zC7, length_cons → zB6, length_map → vP, map_cons → vT, map_nil → zE6, map_toArray → zD5, mem_cons → vS, mem_iff_getElem? → vI, mem_map → zA5, nodup_cons → zB1, range → vW, range' → zD3, replicate → vC
open Nat renaming add_assoc → zC0, add_mul → zA6, ble → zB7, ble_eq_true_of_le → zC6, blt_eq → zC2, le_of_ble_eq_true → vN, le_refl → zC1, lt_or_ge → vV, min → zA3, mul_le_mul_right → uV, succ_mul → zA1, zero_add → uZ, zero_le → vO
open Option renaming getD_some → vZ, map_some → zB0
open Go.Proofs.Tryz renaming prog → uS
namespace Go.Lift
open Go.RowKit
variable {P : Program} {X : Gg} {ops : Array Oper}
def Hs (P : Program) : Nat → List Field → Option (List Nat)
 | _, [] => some []
 | k, f :: fs => if f.name == "_" || f.offset != k then none else match P.underlying f.type with
  | some (.int _) => (Hs P (k + 1) fs).map (0 :: ·)
  | some .bool => (Hs P (k + 1) fs).map (1 :: ·)
  | some .string => (Hs P (k + 1) fs).map (2 :: ·)
  | _ => none
def SE (P : Program) (t : TypeId) : Option (List Nat) :=
 match P.underlying t with
 | some (.struct fs) => if P.stoodInHeld t || P.eqGuardType P.depth t then none else Hs P 0 fs.toList
 | _ => none
def D7 : List Nat → List Value → List Value → Option Bool
 | [], [], [] => some true
 | 0 :: ts, .int k a :: ar, .int k' b :: bs => if k = k' then (D7 ts ar bs).map (fun r => (a == b) && r) else none
 | 1 :: ts, .bool a :: ar, .bool b :: bs => (D7 ts ar bs).map (fun r => (a == b) && r)
 | 2 :: ts, .string a :: ar, .string b :: bs => (D7 ts ar bs).map (fun r => (a.toList == b.toList) && r)
 | _, _, _ => none
theorem RX {ts : List Nat} {ar bs : List Value} {r : Bool} (h : D7 (0 :: ts) ar bs = some r) : ∃ k a ar' b bs' r', ar = .int k a :: ar' ∧ bs = .int k b :: bs' ∧ D7 ts ar' bs' = some r' ∧ r = ((a == b) && r') := by
 unfold D7 at h
 split at h <;> try (exfalso; simp_all; done)
 rename_i ts' k a ar' k' b bs' e
 cases e
 split at h
 ·rename_i e; subst e
  cases hel : D7 ts ar' bs' with
  | none => rw [hel] at h; cases h
  | some r' =>
   rw [hel] at h
   exact ⟨k, a, ar', b, bs', r', rfl, rfl, hel, by simpa using h.symm⟩
 ·cases h
theorem Rg {ts : List Nat} {ar bs : List Value} {r : Bool} (h : D7 (1 :: ts) ar bs = some r) : ∃ a ar' b bs' r', ar = .bool a :: ar' ∧ bs = .bool b :: bs' ∧ D7 ts ar' bs' = some r' ∧ r = ((a == b) && r') := by
 unfold D7 at h
 split at h <;> try (exfalso; simp_all; done)
 rename_i ts' a ar' b bs' e
 cases e
 cases hel : D7 ts ar' bs' with
 | none => rw [hel] at h; cases h
 | some r' =>
  rw [hel] at h
  exact ⟨a, ar', b, bs', r', rfl, rfl, hel, by simpa using h.symm⟩
theorem Rm {ts : List Nat} {ar bs : List Value} {r : Bool} (h : D7 (2 :: ts) ar bs = some r) : ∃ a ar' b bs' r', ar = .string a :: ar' ∧ bs = .string b :: bs' ∧ D7 ts ar' bs' = some r' ∧ r = ((a.toList == b.toList) && r') := by
 unfold D7 at h
 split at h <;> try (exfalso; simp_all; done)
 rename_i ts' a ar' b bs' e
 cases e
 cases hel : D7 ts ar' bs' with
 | none => rw [hel] at h; cases h
 | some r' =>
  rw [hel] at h
  exact ⟨a, ar', b, bs', r', rfl, rfl, hel, by simpa using h.symm⟩
theorem MH {t : TypeId} (h : DY P t false = true) {cs : Array Value} {off : Nat} {v : Value} (hv : cs[off]? = some v) (w : World) : (part t cs off).run P w = .ok v w := by
 unfold part
 refine Ag (GO h w) ?_
 simp only [zE3, if_false, hv]
 rfl
theorem Lw (d : Nat) (xs ys : Array Value) (w : World) : ∀ (fs : List Field) (ts : List Nat) (k : Nat) (ar bs : List Value) (r : Bool), Hs P k fs = some ts → (∀ (j : Nat) (v : Value), ar[j]? = some v → xs[k + j]? = some v) → (∀ (j : Nat) (v : Value), bs[j]? = some v → ys[k + j]? = some v) → D7 ts ar bs = some r →
  (Op.eqFields (d + 1) xs ys fs).run P w = .ok r w
 | [], ts, k, ar, bs, r, ht, hx, hy, he => by
  cases ht
  cases ar <;> cases bs <;> simp [D7] at he
  subst he; rfl
 | f :: fs, ts, k, ar, bs, r, ht, hx, hy, he => by
  simp only [Hs] at ht
  split at ht
  ·cases ht
  ·rename_i hn
   simp only [zB2, not_or, beq_iff_eq, bne_iff_ne, ne_eq, Decidable.not_not] at hn
   obtain ⟨hn1, hn2⟩ := hn
   subst hn2
   have step : ∀ (ts' : List Nat) (a b : Value) (ar' bs' : List Value) (q r' : Bool), ar = a :: ar' → bs = b :: bs' → Hs P (f.offset + 1) fs = some ts' → D7 ts' ar' bs' = some r' → DY P f.type false = true → (Op.equalIn (d + 1) f.type a b).run P w = .ok q w →
     (Op.eqFields (d + 1) xs ys (f :: fs)).run P w = .ok (q && r') w := by
    intro ts' a b ar' bs' q r' ha hb htl hel hag heq
    subst ha; subst hb
    have h1 : xs[f.offset]? = some a := hx 0 a rfl
    have h2 : ys[f.offset]? = some b := hy 0 b rfl
    simp only [Op.eqFields, hn1, ne_eq, not_false_eq_true, if_true]
    refine Ag (MH hag h1 w) (Ag (MH hag h2 w) (Ag heq ?_))
    cases q
    ·simp
    ·simp only [vG, zE3, if_false, vJ]
     exact Lw d xs ys w fs ts' (f.offset + 1) ar' bs' r' htl (fun j v hj => by rw [show f.offset + 1 + j = f.offset + (j + 1) from by omega]; exact hx (j + 1) v hj) (fun j v hj => by rw [show f.offset + 1 + j = f.offset + (j + 1) from by omega]; exact hy (j + 1) v hj) hel
   split at ht
   ·rename_i kk hu
    cases htl : Hs P (f.offset + 1) fs with
    | none => rw [htl] at ht; cases ht
    | some ts' =>
     rw [htl] at ht; cases ht
     obtain ⟨k1, a1, ar', b1, bs', r', e1, e2, hel, rfl⟩ := RX he
     subst e1; subst e2
     exact step ts' _ _ ar' bs' _ r' rfl rfl htl hel (by unfold DY; rw [hu]; rfl) (run_equalIn_int w d f.type k1 kk a1 b1 hu)
   ·rename_i hu
    cases htl : Hs P (f.offset + 1) fs with
    | none => rw [htl] at ht; cases ht
    | some ts' =>
     rw [htl] at ht; cases ht
     obtain ⟨a1, ar', b1, bs', r', e1, e2, hel, rfl⟩ := Rg he
     subst e1; subst e2
     exact step ts' _ _ ar' bs' _ r' rfl rfl htl hel (by unfold DY; rw [hu]; rfl) (run_equalIn_bool' w d f.type a1 b1 hu)
   ·rename_i hu
    cases htl : Hs P (f.offset + 1) fs with
    | none => rw [htl] at ht; cases ht
    | some ts' =>
     rw [htl] at ht; cases ht
     obtain ⟨a1, ar', b1, bs', r', e1, e2, hel, rfl⟩ := Rm he
     subst e1; subst e2
     exact step ts' _ _ ar' bs' _ r' rfl rfl htl hel (by unfold DY; rw [hu]; rfl) (run_equalIn_string w d f.type a1 b1 hu)
   ·cases ht
theorem Na {t : TypeId} {ts : List Nat} (h : SE P t = some ts) {ar bs : List Value} {r : Bool} (hr : D7 ts ar bs = some r) (w : World) :
  (Op.equalIn 10000 t (.agg ar.toArray) (.agg bs.toArray)).run P w = .ok r w ∧ P.eqGuardType P.depth t = false := by
 unfold SE at h
 split at h
 ·rename_i fs hu
  split at h
  ·cases h
  ·rename_i hn
   simp only [zB2, not_or, Bool.not_eq_true] at hn
   have hf : P.fieldsOf t = fs := by unfold Program.fieldsOf; rw [hu]
   refine ⟨?_, hn.2⟩
   rw [run_equalIn_struct w 9999 t _ _ (by rw [hf]; exact hu) hn.1, hf]
   exact Lw 9998 _ _ w fs.toList ts 0 ar bs r h (fun j v hj => by simpa using hj) (fun j v hj => by simpa using hj) hr
 ·cases h
abbrev aD (ar : List Value) : D := .e (.agg (ar.map fun v => .pure (.val v)))
theorem Rd {w : World} {G : Gh} {v : Value} {ar : List Value} (h : Fw P w G v (aD ar)) : v = .agg ar.toArray := by
 obtain ⟨vs, rfl, hs, h⟩ := h
 congr 1
 have hs' : vs.size = ar.length := by simpa using hs
 apply Array.ext
 ·simpa using hs'
 ·intro j h1 h2
  have hj : j < ar.length := by omega
  have : DM P w G (Au vs j) (.pure (.val ar[j])) := h j _ (by simp [hj])
  have h3 := CN (this : Cj w G.S _ (.val _))
  simpa [Au, h1] using h3
section run
variable {dr : Bool} {Q : St → Prop} {r i : Nat} {st : St} {log : List (Nat × BZ)} {o : Oper} {gs : List (Operand × D)}
theorem Tq {xt yt : TypeId} {x y : Operand} {s : Nat} {ts : List Nat} {b : Bool} (ar bs : List Value) (hat : At st.env ops i X.n (.binOp .eql xt x y yt) s gs)
  (hx : opd st.env x = some (aD ar)) (hy : opd st.env y = some (aD bs)) (ht : SE P xt = some ts) (he : D7 ts ar bs = some b)
  (next : A4 P X ops dr Q r (i + 1) (BZ.upd ⟨gs ++ [(x, aD ar), (y, aD bs)], [], some s, some (bD b), [], []⟩ st) ((i, ⟨gs ++ [(x, aD ar), (y, aD bs)], [], some s, some (bD b), [], []⟩) :: log)) : A4 P X ops dr Q (r + 1) i st log := by
 obtain ⟨o, ho, hop, hd, hn, hg, hgp⟩ := hat.out
 refine A4.step next ⟨Ak.2 ⟨hgp, hx, hy, trivial⟩, trivial, trivial⟩ (LR.value ho hg rfl hd.symm (CS hd hn) ?_)
 intro G st a w hs hpre
 obtain ⟨hx, hy, _⟩ := (Ak.1 hpre.r).2
 have hX := Rd (hs.opd hx)
 have hY := Rd (hs.opd hy)
 obtain ⟨h1, h2⟩ := Na ht he w
 refine ⟨.bool b, w, G, ?_, hs, ?_⟩
 ·simp only [execOp, hop, hX, hY]
  refine Ag (a := .bool b) (w1 := w) (Ag (run_eqGuard_agg w .eql xt x y _ _ h2) ?_) rfl
  rw [run_eql_struct, h1]; rfl
 ·rintro d ⟨⟩
  exact ⟨.val _ rfl, fun b hb => by cases hb⟩
theorem Nr {xt yt : TypeId} {x : Operand} {s e : Nat} {rows : List (List T)} (hat : At st.env ops i X.n (.binOp .eql xt x (.const (.slice none 0 0)) yt) s gs)
  (hx : opd st.env x = some (one (.sl rows))) (ht : sliceB P xt e = true)
  (next : A4 P X ops dr Q r (i + 1) (BZ.upd ⟨gs ++ [(x, one (.sl rows))], [], some s, some (.e (.one (.nilq (rows = [])))), [], []⟩ st) ((i, ⟨gs ++ [(x, one (.sl rows))], [], some s, some (.e (.one (.nilq (rows = [])))), [], []⟩) :: log)) : A4 P X ops dr Q (r + 1) i st log := by
 obtain ⟨o, ho, hop, hd, hn, hg, hgp⟩ := hat.out
 refine A4.step next ⟨Ak.2 ⟨hgp, hx, trivial⟩, trivial, trivial⟩ (LR.value ho hg rfl hd.symm (CS hd hn) ?_)
 intro G st a w hs hpre
 obtain ⟨hx, _⟩ := (Ak.1 hpre.r).2
 have hX : Cj w G.S (a.eval x) (.sl rows) := hs.opd hx
 obtain ⟨av, l, c, hv, hq⟩ : ∃ av l c, a.eval x = .slice av l c ∧ (av.isNone = true → rows = []) := by
  generalize a.eval x = v at hX
  cases hX with
  | nil av cap => exact ⟨av, 0, cap, rfl, fun _ => rfl⟩
  | sl β off cap e arr el fz rows h1 h2 h3 h4 h5 h6 => exact ⟨_, _, _, rfl, fun h => by cases h⟩
 have hu : P.underlying xt = some (.slice e) := by
  unfold sliceB at ht
  split at ht
  ·rename_i e' he; rw [he]; simp at ht; rw [ht]
  ·cases ht
 refine ⟨.bool av.isNone, w, G, ?_, hs, ?_⟩
 ·simp only [execOp, hop, hv]
  refine Ag (a := .bool av.isNone) (w1 := w) (Ag (a := ()) (w1 := w) (by simp [eqGuard]) ?_) rfl
  have h1 : (Op.equalIn (9999 + 1) xt (.slice av l c) (.slice none 0 0)).run P w = .ok av.isNone w := by
   generalize 9999 = dd
   cases av <;> (unfold Op.equalIn; exact Ag (AD hu w) rfl)
  simp only [binOp, Act.eval]
  refine Ag (a := av.isNone) (w1 := w) ?_ rfl
  exact h1
 ·rintro d ⟨⟩
  exact ⟨⟨_, rfl, hq⟩, fun b hb => by cases hb⟩
end run
theorem Nk {c : Operand} {x y : Code} {Q : Exit → St → Prop} {st : St} {p : Prop} (hc : opd st.env c = some (.e (.one (.nilq p)))) (ht : p → W P X x Q st) (hf : W P X y Q st) : W P X (.cond c x y) Q st := by
 intro a w hs
 obtain ⟨b, hcv, hp⟩ : ∃ b, a.eval c = .bool b ∧ (b = true → p) := by
  obtain ⟨G, hs⟩ := hs
  exact hs.opd hc
 cases b with
 | true => exact wp_cond_true hcv (ht (hp rfl) a w hs)
 | false => exact wp_cond_false hcv (hf a w hs)
end Go.Lift
namespace Go.Lift
open List renaming mem_of_getElem? → lM
open Go.RowKit
variable {P : Program} {X : Gg} {ops : Array Oper}
def OB : Bool × List T → D
 | (true, ts) => .e (.agg (ts.map .pure))
 | (false, ts) => .e (.one (.pure (ts.headD .nil0)))
def Ti : Bool × List T → Bool
 | (true, _) => true
 | (false, ts) => match ts with | [_] => true | _ => false
theorem Un {w : World} {S : Nat → Prop} {G : Gh} {v : Value} {x : Bool × List T} (h : Fw P w G v (OB x)) (hS : ∀ β, G.S β → S β) (hx : Ti x = true) : Uq w S v x := by
 obtain ⟨b, ts⟩ := x
 cases b with
 | false =>
  match ts, hx with
  | [t], _ => exact ⟨t, rfl, Cj.mono (show Cj w G.S v t from h) (fun _ _ => rfl) hS⟩
 | true =>
  obtain ⟨vs, e, hs, h⟩ := h
  refine ⟨vs, e, by simpa using hs, fun j t hj => ?_⟩
  have : DM P w G (Au vs j) (.pure t) := h j (.pure t) (by simp [hj])
  exact Cj.mono this (fun _ _ => rfl) hS
theorem RO {w : World} {S : Nat → Prop} {v : Value} {x : Bool × List T} (h : Uq w S v x) : Fw P w (G0 S) v (OB x) := by
 obtain ⟨b, ts⟩ := x
 cases b with
 | false =>
  obtain ⟨t, rfl, h⟩ := h
  exact h
 | true =>
  obtain ⟨vs, e, hs, h⟩ := h
  refine ⟨vs, e, by simpa using hs, fun j c hj => ?_⟩
  rw [uX] at hj
  cases hx : ts[j]? with
  | none => rw [hx] at hj; cases hj
  | some t => rw [hx] at hj; cases hj; exact h j t hx
noncomputable def Iz {α ρ : Type} (ea : α → List (Bool × List T)) (er : ρ → T) (q : α → Option ρ) : List (Bool × List T) → Option T := fun ar =>
 open Classical in if h : ∃ x r, ea x = ar ∧ q x = some r then some (er (Classical.choose (Classical.choose_spec h))) else none
theorem IP {α ρ : Type} {ea : α → List (Bool × List T)} {er : ρ → T} {q : α → Option ρ} {ar : List (Bool × List T)} {t : T} (h : Iz ea er q ar = some t) : ∃ x r, ar = ea x ∧ q x = some r ∧ t = er r := by
 unfold Iz at h
 split at h
 ·rename_i hx
  cases h
  have := Classical.choose_spec (Classical.choose_spec hx)
  exact ⟨_, _, this.1.symm, this.2, rfl⟩
 ·cases h
theorem KZ {α ρ : Type} {ea : α → List (Bool × List T)} {er : ρ → T} {q : α → Option ρ} (inj : ∀ x y, ea x = ea y → x = y) {x : α} {r : ρ} (h : q x = some r) : Iz ea er q (ea x) = some (er r) := by
 have hx : ∃ y s, ea y = ea x ∧ q y = some s := ⟨x, r, rfl, h⟩
 unfold Iz
 rw [dif_pos hx]
 have h1 := Classical.choose_spec (Classical.choose_spec hx)
 have h2 := inj _ _ h1.1
 have h3 : q (Classical.choose hx) = some r := by rw [h2]; exact h
 exact congrArg (fun z => some (er z)) (Option.some.inj (h3.symm.trans h1.2)).symm
structure Us {α β : Type} (f : α → β) : Prop where
 inj : ∀ x y, f x = f y → x = y
def MF {α : Type} (b : Bool) (e : α → List T) (x : α) : List (Bool × List T) := [(b, e x)]
theorem K2 {α : Type} (b : Bool) (e : α → List T) (h : Us e) : ∀ x y, MF b e x = MF b e y → x = y := by
 intro x y hxy
 simp only [MF, List.cons.injEq, Prod.mk.injEq, true_and, and_true] at hxy
 exact h.inj _ _ hxy
theorem PL {α β : Type} {f : α → β} (h : ∀ x y, f x = f y → x = y) : ∀ (xs ys : List α), xs.map f = ys.map f → xs = ys
 | [], [], _ => rfl
 | [], _ :: _, e => by cases e
 | _ :: _, [], e => by cases e
 | x :: xs, y :: ys, e => by
  simp only [vT, List.cons.injEq] at e
  rw [h _ _ e.1, PL h _ _ e.2]
theorem NT {f : FuncId} {g : List (Bool × List T) → Option T} (hf : Az P f = true) (hclo : ∀ ar t, g ar = some t → Ap P f (ar.map OB) [] (one t)) {w : World} {S : Nat → Prop} {v : Value} (h : Fw P w (G0 S) v (.e (.one (.fnc f)))) : Fw P w (G0 S) v (.e (.one (.clo g))) := by
 refine ⟨f, #[], h, ?_, ?_⟩
 ·unfold Az at hf
  split at hf
  ·rename_i fn h0
   simp only [uU, zC3] at hf
   exact ⟨fn, h0, hf.2, hf.1⟩
  ·cases hf
 ·intro w' S' _ _ hlt hgk vs ar r0 hvs has hgr
  refine (hclo ar r0 hgr w' S' (vs ++ #[]) hlt hgk (by simp [hvs]) ?_).mono ?_
  ·intro j d hj
   rw [uX] at hj
   cases hx0 : ar[j]? with
   | none => rw [hx0] at hj; cases hj
   | some y =>
    rw [hx0] at hj; cases hj
    rw [Array.append_empty]
    exact RO (has j y hx0)
  ·rintro e w'' ⟨v, G', rfl, hbel, h1, h2, h3, _⟩
   exact ⟨v, G'.S, rfl, hbel, h1, h2, h3⟩
def Vn (P : Program) : List D → List D → Prop
 | [], [] => True
 | a :: ar, b :: bs => (∀ (w : World) (S : Nat → Prop) (v : Value), Fw P w (G0 S) v a → Fw P w (G0 S) v b) ∧ Vn P ar bs
 | _, _ => False
theorem Vn.get : ∀ {ar bs : List D}, Vn P ar bs → ar.length = bs.length ∧ ∀ (j : Nat) (b : D), bs[j]? = some b → ∃ a, ar[j]? = some a ∧ ∀ (w : World) (S : Nat → Prop) (v : Value), Fw P w (G0 S) v a → Fw P w (G0 S) v b
 | [], [], _ => ⟨rfl, fun j b h => by simp at h⟩
 | a :: ar, b :: bs, h => by
  obtain ⟨h1, h2⟩ := Vn.get h.2
  refine ⟨by simp [h1], fun j c hj => ?_⟩
  cases j with
  | zero => simp at hj; subst hj; exact ⟨a, rfl, h.1⟩
  | succ j => obtain ⟨a', g1, g2⟩ := h2 j c (by simpa using hj); exact ⟨a', by simpa using g1, g2⟩
theorem Ap.weak {f : FuncId} {ds ds' : List D} {rv : List (Nat × List (List T))} {res : D} (h : Ap P f ds rv res) (hp : Vn P ds' ds) : Ap P f ds' rv res := by
 intro w S vs hS hgk hlen hargs
 obtain ⟨h1, h2⟩ := hp.get
 refine h w S vs hS hgk (by rw [hlen, h1]) fun j d hj => ?_
 obtain ⟨a, g1, g2⟩ := h2 j d hj
 exact g2 w S _ (hargs j a g1)
section run
variable {dr : Bool} {Q : St → Prop} {r i : Nat} {st : St} {log : List (Nat × BZ)} {o : Oper} {gs : List (Operand × D)}
theorem Pe {f : FuncId} (h : Az P f = true) : ∃ fn, P.funcs[f]? = some fn ∧ fn.body.isSome = true ∧ (fn.name == "runtime.NumGoroutine") = false := by
 unfold Az at h
 split at h
 ·rename_i fn hf
  simp only [uU, zC3] at h
  exact ⟨fn, hf, h.2, h.1⟩
 ·cases h
theorem Pr {f : FuncId} {s : Nat} {xs : List Operand} {capD : List D} (g : List (Bool × List T) → Option T) (hat : At st.env ops i X.n (.makeFunc (.func f) #[] xs.toArray) s gs)
  (hf : Az P f = true) (hl : xs.length = capD.length) (hx : DP st.env (F0 xs capD)) (hpub : capD.all Ol = true)
  (hclo : ∀ ar t, g ar = some t → Ap P f (ar.map OB ++ capD) [] (one t))
  (next : A4 P X ops dr Q r (i + 1) (BZ.upd ⟨gs ++ F0 xs capD, [], some s, some (.e (.one (.clo g))), [], []⟩ st) ((i, ⟨gs ++ F0 xs capD, [], some s, some (.e (.one (.clo g))), [], []⟩) :: log)) : A4 P X ops dr Q (r + 1) i st log := by
 obtain ⟨o, ho, hop, hd, hn, hg, hgp⟩ := hat.out
 refine A4.step next ⟨Ak.2 ⟨hgp, hx⟩, trivial, trivial⟩ (LR.value ho hg rfl hd.symm (CS hd hn) ?_)
 intro G st a w hs hpre
 have hx := (Ak.1 hpre.r).2
 refine ⟨.func (.func f) #[] (xs.toArray.map a.eval), w, G, ?_, hs, ?_⟩
 ·simp only [execOp, hop]
  exact Ag (a := .func (.func f) #[] (xs.toArray.map a.eval)) (w1 := w) (by simp [Instr.makeFunc]) rfl
 ·rintro d ⟨⟩
  refine ⟨⟨f, _, rfl, Pe hf, ?_⟩, fun b hb => by cases hb⟩
  intro w' S' hS' hw' hlt hgk vs ar r0 hvs has hgr
  refine (hclo ar r0 hgr w' S' (vs ++ xs.toArray.map a.eval) hlt hgk (by simp [hvs, hl]) ?_).mono ?_
  ·intro j d hj
   by_cases hja : j < ar.length
   ·rw [zA0 (by simpa using hja), uX] at hj
    have hx0 : ar[j]? = some ar[j] := by simp [hja]
    rw [hx0] at hj; cases hj
    rw [Cv (by omega)]
    exact RO (has j _ hx0)
   ·rw [vX (by simp; omega)] at hj
    simp only [vP] at hj
    have hlt' := AC hj
    have hxj : xs[j - ar.length]? = some (xs[j - ar.length]'(by omega)) := by simp [show j - ar.length < xs.length from by omega]
    have hop' := HF hl hx _ _ d hxj hj
    have hcell : Au (vs ++ xs.toArray.map a.eval) j = a.eval (xs[j - ar.length]'(by omega)) := by
     unfold Au
     rw [Array.getElem?_append_right (by omega), hvs]
     simp [show j - ar.length < xs.length from by omega]
    rw [hcell]
    have hcl : d.names = [] := by
     have := uT.1 hpub d (lM hj)
     simpa [Ol] using this
    exact ((hs.opd hop').mono (p := fun _ => False) (G' := G0 S') ⟨hS', fun _ h => h.elim, fun _ h => h.elim, fun _ h => h.elim⟩ hw' (fun b hb => by rw [hcl] at hb; cases hb))
  ·rintro e w'' ⟨v, G', rfl, hbel, h1, h2, h3, _⟩
   exact ⟨v, G'.S, rfl, hbel, h1, h2, h3⟩
theorem K3 {x : Operand} {g : List (Bool × List T) → Option T} {s : Nat} {xs : List Operand} {ds0 : List D} {ar : List (Bool × List T)} {r0 : T} {ts : Array TypeId} (hat : At st.env ops i X.n (.call ⟨.value x, xs.toArray, ts⟩) s gs)
  (hgx : opd st.env x = some (.e (.one (.clo g)))) (hl : xs.length = ds0.length) (hx : DP st.env (F0 xs ds0)) (hds : ds0.map D.nrm = ar.map OB) (_hpub : (ar.map OB).all Ol = true) (hok : ar.all Ti = true) (hr : g ar = some r0)
  (next : A4 P X ops dr Q r (i + 1) (BZ.upd ⟨gs ++ ((x, .e (.one (.clo g))) :: F0 xs ds0), [], some s, some (one r0), [], []⟩ st) ((i, ⟨gs ++ ((x, .e (.one (.clo g))) :: F0 xs ds0), [], some s, some (one r0), [], []⟩) :: log)) : A4 P X ops dr Q (r + 1) i st log := by
 obtain ⟨o, ho, hop, hd, hn, hg, hgp⟩ := hat.out
 refine A4.step next ⟨Ak.2 ⟨hgp, hgx, hx⟩, trivial, trivial⟩ ?_
 intro st a w K Q' hs hpre hK
 obtain ⟨G, hs⟩ := hs
 obtain ⟨hgx, hx⟩ := (Ak.1 hpre.r).2
 have hw := hs.wanted hg (Ak.1 hpre.r).1
 unfold wpOp
 rw [ho]
 simp only [hw, if_true]
 refine .inl ?_
 unfold Oper.wp
 obtain ⟨f, caps, hv, ⟨fn, hf1, hf2, hf3⟩, hcall⟩ : KB P w G.S (a.eval x) g := hs.opd hgx
 have hgood : Az P f = true := by unfold Az; rw [hf1]; simp [hf2]; simpa using hf3
 have hrun : (execOp a.eval o).run P w = .ok (.enter f (xs.toArray.map a.eval ++ caps)) w := by
  simp only [execOp, hop]
  simp only [resolve, hv, Deferred.ofValue]
  refine Ag (a := { target := .fn (.func f) caps, args := #[] ++ xs.toArray.map a.eval }) (w1 := w) rfl ?_
  simp only [invoke]
  rw [HT hgood]; simp
 rw [hrun]
 show Calls P f (xs.toArray.map a.eval ++ caps) w _
 have hlen : xs.length = ar.length := by
  have := congrArg zC7 hds
  simp at this; omega
 refine (hcall w G.S (fun _ h => h) (fun _ _ => rfl) hs.S_lt hs.gok (xs.toArray.map a.eval) ar r0 (by simp [hlen]) ?_ hr).mono ?_
 ·intro j y hj
  have hlt := AC hj
  have hd0 : ds0[j]? = some (ds0[j]'(by omega)) := by simp [show j < ds0.length from by omega]
  have hnrm : (ds0[j]'(by omega)).nrm = OB y := by
   have h1 : (ds0.map D.nrm)[j]? = (ar.map OB)[j]? := by rw [hds]
   rw [uX, uX, hd0, hj] at h1
   simpa using h1
  have hxj : xs[j]? = some (xs[j]'(by omega)) := by simp [show j < xs.length from by omega]
  have hop' := HF hl hx j _ _ hxj hd0
  have hcell : Au (xs.toArray.map a.eval) j = a.eval (xs[j]'(by omega)) := by simp [Au, show j < xs.length from by omega]
  rw [hcell]
  have hrd := (hs.opd hop').nrm
  rw [hnrm] at hrd
  exact Un hrd (fun _ h => h) (uT.1 hok y (lM hj))
 ·rintro e w' ⟨v, S'', rfl, hbel, hS1, hS2, hres⟩
  show K (a.put o.dst v) w'
  rw [hd]
  let G2 : Gh := { G with S := S'' }
  have hsz := hbel.size
  have hle := hs.below.size
  have key : Cu P X G2 ⟨st.env, Bx st.bx []⟩ a w' := by
   refine hs.frame (fun c hc => hc) ⟨hS1, fun _ _ => rfl, fun _ _ => rfl, fun _ _ => rfl⟩ (fun β hβ => hbel.block β (hs.S_lt β hβ)) ?_ ?_ ?_ ?_ ?_ (hs.below.trans (.of (hbel.mono hle))) (fun _ _ => ⟨rfl, rfl, rfl⟩)
   ·intro c k hc
    exact .inl ⟨hc, fun β hr hβ => hbel.block β (hs.at_ok c k β hc hr hβ).2.1⟩
   ·intro c k β hc hr hβ
    have := hs.at_ok c k β hc hr hβ
    refine ⟨this.1, by omega, fun h => ?_⟩
    rcases hS2 β h with h | h
    ·exact this.2.2 h
    ·omega
   ·intro c c' k k' β hc hc' hr hr' hβ hβ'
    exact hs.at_inj c c' k k' β hc hc' hr hr' hβ hβ'
   ·intro β h
    rcases hS2 β h with h | h
    ·have := hs.S_lt β h; omega
    ·exact h.2
   ·intro β h
    rcases hS2 β h with h | h
    ·exact hs.S_src β h
    ·exact .inr (by omega)
  refine hK _ _ ⟨G2, key.put (some s) (some (one r0)) v (by intro t e; cases e; exact hn) ?_⟩
  rintro d ⟨⟩
  exact ⟨hres, fun b hb => by cases hb⟩
end run
end Go.Lift
namespace Go.Lift
open Go.RowKit Go.ChangeShapes Go.WideShapes
section
variable {P : Program}
def JZ (P : Program) : Nat → List Field → Nat → Bool
 | o, [], n => o == n
 | o, f :: fs, n => f.offset == o && JZ P (o + P.cellsOf f.type) fs n
def Hu (P : Program) : Nat → TypeId → Bool
 | 0, _ => false
 | d + 1, t => match P.underlying t with
  | some (.int _) => true
  | some .bool => true
  | some .string => true
  | some (.slice e) => decide (0 < P.cellsOf e) && Hu P d e
  | some (.struct fs) => JZ P 0 fs.toList (P.cellsOf t) && fs.toList.all fun f => Hu P d f.type
  | _ => false
def Sf (F : TypeId → List T → Prop) : List TypeId → List T → Prop
 | [], ts => ts = []
 | t :: tys, ts => ∃ a b, ts = a ++ b ∧ F t a ∧ Sf F tys b
def IF (P : Program) : Nat → TypeId → List T → Prop
 | 0, _, _ => False
 | d + 1, t, ts => match P.underlying t with
  | some (.int k) => ∃ n, ts = [.val (.int k n)] ∧ (Lit.int k n).wf = true
  | some .bool => ∃ b, ts = [.val (.bool b)]
  | some .string => ∃ s, ts = [.val (.string s)]
  | some (.slice e) => ∃ rows, ts = [.sl rows] ∧ ∀ row, row ∈ rows → IF P d e row
  | some (.struct fs) => Sf (IF P d) (fs.toList.map (·.type)) ts
  | _ => False
def GC (w : World) (S : Nat → Prop) : List Value → List T → Prop
 | [], [] => True
 | v :: vs, t :: ts => Cj w S v t ∧ GC w S vs ts
 | _, _ => False
theorem GC.append {w : World} {S : Nat → Prop} : ∀ {a b : List Value} {x y : List T}, GC w S a x → GC w S b y → GC w S (a ++ b) (x ++ y)
 | [], _, [], _, _, h => h
 | _ :: _, _, _ :: _, _, h1, h2 => ⟨h1.1, GC.append h1.2 h2⟩
theorem GC.len {w : World} {S : Nat → Prop} : ∀ {a : List Value} {x : List T}, GC w S a x → a.length = x.length
 | [], [], _ => rfl
 | _ :: _, _ :: _, h => by simp [h.2.len]
theorem GC.get {w : World} {S : Nat → Prop} : ∀ {a : List Value} {x : List T}, GC w S a x → ∀ (j : Nat) (t : T), x[j]? = some t → ∃ v, a[j]? = some v ∧ Cj w S v t
 | [], [], _, j, t, hj => by simp at hj
 | v :: _, _ :: _, h, 0, t, hj => by simp at hj; subst hj; exact ⟨v, rfl, h.1⟩
 | _ :: _, _ :: _, h, j + 1, t, hj => by
  obtain ⟨v, h1, h2⟩ := h.2.get j t (by simpa using hj)
  exact ⟨v, by simpa using h1, h2⟩
theorem Kw {α : Type} {p : Nat → α → Prop} : ∀ (n : Nat), (∀ i, i < n → ∃ x, p i x) → ∃ l : List α, l.length = n ∧ ∀ i x, l[i]? = some x → p i x
 | 0, _ => ⟨[], rfl, fun i x h => by simp at h⟩
 | n + 1, h => by
  obtain ⟨l, h1, h2⟩ := Kw n (fun i hi => h i (by omega))
  obtain ⟨x, hx⟩ := h n (by omega)
  refine ⟨l ++ [x], by simp [h1], fun i y hi => ?_⟩
  by_cases hlt : i < l.length
  ·rw [zA0 hlt] at hi; exact h2 i y hi
  ·rw [vX (by omega)] at hi
   have : i - l.length = 0 := by
    have := AC hi
    simp at this; omega
   rw [this] at hi
   simp at hi; subst hi
   have : i = n := by omega
   subst this; exact hx
theorem It {α : Type} {f : Nat → Option α} : ∀ {n : Nat} {l : List α}, (vW n).mapM f = some l → l.length = n ∧ ∀ i, i < n → f i = l[i]? := by
 intro n l h
 have h1 := mapM_some_length h
 refine ⟨by simpa using h1, fun i hi => ?_⟩
 exact mapM_some_get h i i (by simp [hi])
theorem Or {w : World} {b o : Nat} {v : Value} (h : w.cell? ⟨b, o, none⟩ = some v) : ∃ arr el fz, w.heap[b]? = some (.cells arr el fz) ∧ arr[o]? = some v := by
 unfold World.cell? at h
 split at h
 ·rename_i c el fz hc
  exact ⟨c, el, fz, hc, by simpa using h⟩
 ·cases h
theorem SO {w : World} {b : Nat} {o : Obj} (h : w.heap[b]? = some o) : b < w.heap.size := by
 rcases vV b w.heap.size with h1 | h1
 ·exact h1
 ·rw [vY h1] at h; cases h
abbrev O7 (w : World) : Nat → Prop := fun β => β < w.heap.size
theorem Mw {H : Type} {enc : TypeId × Value → H} {w : World} {sp : Nat → Bool} {held : Bool} {n d : Nat} {cs : List Value}
  (ih : ∀ (t : TypeId) (cs : List Value) (x : DataW H × List MemPlace), Hu P d t = true → DataW.trod enc P w 0 sp held n t cs = some x → ∃ ts, GC w (O7 w) cs ts ∧ IF P d t ts) :
  ∀ (fs : List Field) (o : Nat), JZ P o fs cs.length = true → (fs.all fun f => Hu P d f.type) = true →
   (∀ f, f ∈ fs → ∃ x, DataW.trod enc P w 0 sp held n f.type ((cs.drop f.offset).take (P.cellsOf f.type)) = some x) →
   ∃ ts, GC w (O7 w) (cs.drop o) ts ∧ Sf (IF P d) (fs.map (·.type)) ts
 | [], o, hc, _, _ => by
  simp only [JZ, beq_iff_eq] at hc
  refine ⟨[], ?_, rfl⟩
  rw [vF (by omega)]; trivial
 | f :: fs, o, hc, hp, hx => by
  simp only [JZ, uU, beq_iff_eq] at hc
  simp only [zB3, uU] at hp
  obtain ⟨x, hx0⟩ := hx f (by simp)
  rw [hc.1] at hx0
  obtain ⟨ts, h1, h2⟩ := ih _ _ _ hp.1 hx0
  obtain ⟨us, h3, h4⟩ := Mw ih fs _ hc.2 hp.2 (fun g hg => hx g (by simp [hg]))
  refine ⟨ts ++ us, ?_, ⟨ts, us, rfl, h2, h4⟩⟩
  have : cs.drop o = (cs.drop o).take (P.cellsOf f.type) ++ cs.drop (o + P.cellsOf f.type) := by
   rw [← List.drop_drop, List.take_append_drop]
  rw [this]
  exact h1.append h3
theorem Ni {H : Type} {enc : TypeId × Value → H} {w : World} {sp : Nat → Bool} {held : Bool} : ∀ (d fuel : Nat) (t : TypeId) (cs : List Value) (x : DataW H × List MemPlace), Hu P d t = true → DataW.trod enc P w 0 sp held fuel t cs = some x → ∃ ts, GC w (O7 w) cs ts ∧ IF P d t ts
 | 0, _, _, _, _, hp, _ => by cases hp
 | d + 1, fuel, t, cs, x, hp, hx => by
  unfold Hu at hp
  unfold IF
  split at hp
  ·rename_i k hu
   obtain ⟨n, rfl, _, hw⟩ := DataW.trod_int hu hx
   exact ⟨[.val (.int k n)], ⟨.val _ rfl, trivial⟩, n, rfl, hw⟩
  ·rename_i hu
   obtain ⟨b, rfl, _⟩ := DataW.trod_bool hu hx
   exact ⟨[.val (.bool b)], ⟨.val _ rfl, trivial⟩, b, rfl⟩
  ·rename_i hu
   obtain ⟨b, rfl, _⟩ := DataW.trod_string hu hx
   exact ⟨[.val (.string b)], ⟨.val _ rfl, trivial⟩, b, rfl⟩
  ·rename_i e hu
   simp only [uU, decide_eq_true_eq] at hp
   rcases DataW.trod_slice hu hx with ⟨rfl, _⟩ | ⟨a, len, cap, elems, rest, n, rfl, rfl, _, _, hl, _, hlen, hel, _, _⟩
   ·exact ⟨[.sl []], ⟨.nil none 0, trivial⟩, [], rfl, fun row h => by cases h⟩
   ·have hrow : ∀ i, i < len → ∃ row, ∃ csi, w.cells? 0 (a.add (i * P.cellsOf e)) (P.cellsOf e) = some csi ∧ GC w (O7 w) csi row ∧ IF P d e row := by
     intro i hi
     have h1 := hel i hi
     have h2 : elems[i]? = some (elems[i]'(by omega)) := by simp [show i < elems.length from by omega]
     rw [h2] at h1
     obtain ⟨csi, h3, h4⟩ := Option.bind_eq_some_iff.1 h1
     obtain ⟨row, h5, h6⟩ := Ni d n e csi _ hp.2 h4
     exact ⟨row, csi, h3, h5, h6⟩
    obtain ⟨rows, hrl, hrows⟩ := Kw len hrow
    subst hrl
    refine ⟨[.sl rows], ⟨?_, trivial⟩, rows, rfl, fun row hm => ?_⟩
    ·cases hr0 : rows with
     | nil => exact .nil _ _
     | cons r0 rs0 =>
      rw [← hr0]
      have hpos : 0 < rows.length := by rw [hr0]; simp
      -- each cell
      have hcell : ∀ (i : Nat) (row : List T) (j : Nat) (u : T), rows[i]? = some row → row[j]? = some u → j < P.cellsOf e ∧ ∃ v, w.cell? ((a.add (i * P.cellsOf e)).add j) = some v ∧ Cj w (O7 w) v u := by
       intro i row j u hi hj
       obtain ⟨csi, h1, h2, _⟩ := hrows i row hi
       obtain ⟨v, h3, h4⟩ := h2.get j u hj
       unfold World.cells? at h1
       rw [if_pos (vO _)] at h1
       obtain ⟨h5, h6⟩ := It h1
       have hjl : j < P.cellsOf e := by have := AC h3; omega
       exact ⟨hjl, v, by rw [h6 j hjl, h3], h4⟩
      have hrlen : ∀ (i : Nat) (row : List T), rows[i]? = some row → row.length = P.cellsOf e := by
       intro i row hi
       obtain ⟨csi, h1, h2, _⟩ := hrows i row hi
       unfold World.cells? at h1
       rw [if_pos (vO _)] at h1
       obtain ⟨h5, _⟩ := It h1
       rw [← h2.len, h5]
      have hget : ∀ i (hi : i < rows.length), rows[i]? = some (rows[i]'hi) := fun i hi => by simp [hi]
      have hr00 := hget 0 hpos
      have hl0 := hrlen 0 _ hr00
      obtain ⟨_, v0, hv0, _⟩ := hcell 0 _ 0 ((rows[0]'hpos)[0]'(by omega)) hr00 (by simp)
      have hadd0 : (a.add (0 * P.cellsOf e)).add 0 = a := by simp [Addr.add]
      rw [hadd0] at hv0
      have hspot := World.cell?_spot hv0
      obtain ⟨β, off, spot⟩ := a
      simp only at hspot
      subst hspot
      obtain ⟨arr, el, fz, hb, _⟩ := Or hv0
      have hadd : ∀ i j : Nat, ((⟨β, off, none⟩ : Addr).add (i * P.cellsOf e)).add j = ⟨β, off + i * P.cellsOf e + j, none⟩ := by
       intro i j
       unfold Addr.add
       split
       ·rename_i h1
        split
        ·rename_i h2; rw [h2]; simp
        ·rename_i h2; simp only [Addr.mk.injEq, true_and, and_true]; omega
       ·split <;> simp_all <;> omega
      have hat : ∀ (i : Nat) (row : List T) (j : Nat) (u : T), rows[i]? = some row → row[j]? = some u → off + i * P.cellsOf e + j < arr.size ∧ Cj w (O7 w) (Au arr (off + i * P.cellsOf e + j)) u := by
       intro i row j u hi hj
       obtain ⟨_, v, h1, h2⟩ := hcell i row j u hi hj
       rw [hadd] at h1
       obtain ⟨arr', el', fz', h3, h4⟩ := Or h1
       rw [hb] at h3; cases h3
       have hlt : off + i * P.cellsOf e + j < arr.size := by
        rcases vV (off + i * P.cellsOf e + j) arr.size with h | h
        ·exact h
        ·rw [vY h] at h4; cases h4
       refine ⟨hlt, ?_⟩
       have : Au arr (off + i * P.cellsOf e + j) = v := by unfold Au; rw [h4]; rfl
       rw [this]; exact h2
      refine .sl β off cap (P.cellsOf e) arr el fz rows (SO hb) hb hl ?_ hrlen (fun i row j u hi hj => (hat i row j u hi hj).2)
      have hil := hget (rows.length - 1) (by omega)
      have hll := hrlen _ _ hil
      have h7 := (hat (rows.length - 1) _ (P.cellsOf e - 1) ((rows[rows.length - 1]'(by omega))[P.cellsOf e - 1]'(by omega)) hil (by simp)).1
      have h8 : rows.length * P.cellsOf e = (rows.length - 1) * P.cellsOf e + P.cellsOf e := by
       rw [← zA1]; congr 1; omega
      omega
    ·obtain ⟨i, hi⟩ := vI.1 hm
     obtain ⟨_, _, _, h⟩ := hrows i row hi
     exact h
  ·rename_i fs hu
   simp only [uU] at hp
   obtain ⟨xs, n, rfl, _, hcl, hxl, hf⟩ := DataW.trod_struct hu hx
   have := Mw (enc := enc) (sp := sp) (held := held) (cs := cs) (fun t cs x h1 h2 => Ni d n t cs x h1 h2) fs.toList 0 (by rw [hcl]; exact hp.1) hp.2 (fun f hm => by
    obtain ⟨i, hi⟩ := vI.1 hm
    have hi' : fs[i]? = some f := by simpa using hi
    have h1 := hf i f hi'
    have hlt : i < fs.size := by
     have := AC hi
     simpa using this
    exact ⟨xs[i]'(by omega), by rw [h1]; simp [show i < xs.length from by omega]⟩)
   simpa using this
  ·cases hp
end
end Go.Lift
namespace Go.Lift
open Go.RowKit Go.ChangeShapes Go.WideShapes
section
variable {P : Program}
def Uf (P : Program) (t : TypeId) (us : List T) : D := match P.underlying t with
 | some (.struct _) => .e (.agg (us.map .pure))
 | _ => .e (.one (.pure (us.headD .nil0)))
def HY (P : Program) (d : Nat) : List TypeId → List D → Prop
 | [], [] => True
 | t :: ts, x :: xs => (∃ us, IF P d t us ∧ x = Uf P t us) ∧ HY P d ts xs
 | _, _ => False
theorem TV {H : Type} {enc : TypeId × Value → H} {w : World} {d base : Nat} {t : TypeId} {v : Value} {x : DataW H} {ps : List MemPlace} (hp : Hu P d t = true) (hval : Value.okWide P w .any base t v) (h : DataW.Trod enc P w 0 (fun _ => true) true t v x ps) :
  ∃ us, IF P d t us ∧ Fw P w (G0 (O7 w)) v (Uf P t us) := by
 obtain ⟨fuel, hf⟩ := h
 obtain ⟨us, h1, h2⟩ := Ni d fuel t _ _ hp hf
 refine ⟨us, h2, ?_⟩
 have single : ∀ (v : Value), v.cells.toList = [v] → GC w (O7 w) v.cells.toList us → Fw P w (G0 (O7 w)) v (.e (.one (.pure (us.headD .nil0)))) := by
  intro v hv hr
  rw [hv] at hr
  match us, hr with
  | [u], hr => exact hr.1
 unfold Uf
 cases d with
 | zero => cases hp
 | succ d =>
  unfold Hu at hp
  split at hp
  ·rename_i k hu
   rw [hu]
   obtain ⟨n, rfl⟩ := okWide_int hu hval
   exact single _ rfl h1
  ·rename_i hu
   rw [hu]
   obtain ⟨n, rfl⟩ := okWide_bool hu hval
   exact single _ rfl h1
  ·rename_i hu
   rw [hu]
   obtain ⟨n, rfl⟩ := okWide_string hu hval
   exact single _ rfl h1
  ·rename_i e hu
   rw [hu]
   obtain ⟨a, len, cap, rfl⟩ := okWide_slice hu hval
   exact single _ rfl h1
  ·rename_i fs hu
   rw [hu]
   simp only [Value.okWide, hu] at hval
   obtain ⟨cs, rfl, _, _⟩ := hval
   have h1 : GC w (O7 w) cs.toList us := h1
   refine ⟨cs, rfl, by simpa using h1.len, fun j c hj => ?_⟩
   rw [uX] at hj
   cases hx : us[j]? with
   | none => rw [hx] at hj; cases hj
   | some u =>
    rw [hx] at hj; cases hj
    obtain ⟨v, h3, h4⟩ := h1.get j u hx
    have : Au cs j = v := by unfold Au; rw [show cs[j]? = some v from by simpa using h3]; rfl
    rw [this]; exact h4
  ·cases hp
theorem PT {H : Type} {enc : TypeId × Value → H} {w : World} {d base : Nat} : ∀ {ts : List TypeId} {vs : List Value} {ds : List (DataW H)} {ps : List MemPlace}, (ts.all (Hu P d)) = true → (∀ (j : Nat) t v, ts[j]? = some t → vs[j]? = some v → Value.okWide P w .any base t v) →
  DataW.TrodAll enc P w 0 (fun _ => true) true ts vs ds ps → ∃ Ds, HY P d ts Ds ∧ vs.length = Ds.length ∧ ds.length = ts.length ∧ ∀ (j : Nat) (x : D), Ds[j]? = some x → ∃ v, vs[j]? = some v ∧ Fw P w (G0 (O7 w)) v x
 | [], [], [], _, _, _, _ => ⟨[], trivial, rfl, rfl, fun j x h => by simp at h⟩
 | t :: ts, v :: vs, x :: xs, _, hp, hval, h => by
  obtain ⟨p, q, h1, h2, _⟩ := h
  simp only [zB3, uU] at hp
  obtain ⟨us, h3, h4⟩ := TV hp.1 (hval 0 t v rfl rfl) h1
  obtain ⟨Ds, h5, h6, h7, h8⟩ := PT hp.2 (fun j t v hj hv => hval (j + 1) t v (by simpa using hj) (by simpa using hv)) h2
  refine ⟨Uf P t us :: Ds, ⟨⟨us, h3, rfl⟩, h5⟩, by simp [h6], by simp [h7], fun j y hj => ?_⟩
  cases j with
  | zero => simp at hj; subst hj; exact ⟨v, rfl, h4⟩
  | succ j =>
   obtain ⟨v', g1, g2⟩ := h8 j y (by simpa using hj)
   exact ⟨v', by simpa using g1, g2⟩
 | [], [], _ :: _, _, _, _, h => h.elim
 | [], _ :: _, _, _, _, _, h => by cases ‹List (DataW H)› <;> exact h.elim
 | _ :: _, [], _, _, _, _, h => by cases ‹List (DataW H)› <;> exact h.elim
 | _ :: _, _ :: _, [], _, _, _, h => h.elim
theorem Jd {H : Type} {enc : TypeId × Value → H} (hl : laidOutB P = true) {W W' : World} (hb : Below W.heap.size W W') : ∀ {ts : List TypeId} {vs : List Value} {ds : List (DataW H)} {ps : List MemPlace}, (ts.all fun t => P.readableRec t && decide (t < P.types.size)) = true →
  DataW.TrodAll enc P W 0 (fun _ => true) true ts vs ds ps → (∀ x ∈ ps, x.block < W.heap.size) → DataW.TrodAll enc P W' 0 (fun b => decide (b < W.heap.size)) true ts vs ds ps
 | [], [], [], _, _, h, _ => h
 | t :: ts, v :: vs, x :: xs, _, hr, h, hlt => by
  obtain ⟨p, q, h1, h2, rfl⟩ := h
  simp only [zB3, uU, decide_eq_true_eq] at hr
  refine ⟨p, q, Below.trod hl hr.1.1 hr.1.2 h1 hb (fun y hy => hlt y (by simp [hy])), Jd hl hb (by simpa using hr.2) h2 (fun y hy => hlt y (by simp [hy])), rfl⟩
 | [], [], _ :: _, _, _, h, _ => h.elim
 | [], _ :: _, _, _, _, h, _ => by cases ‹List (DataW H)› <;> exact h.elim
 | _ :: _, [], _, _, _, h, _ => by cases ‹List (DataW H)› <;> exact h.elim
 | _ :: _, _ :: _, [], _, _, h, _ => h.elim
end
end Go.Lift
namespace Go.Lift
open Go.RowKit
section
variable {P : Program}
def NE {α : Type} (P : Program) (t : TypeId) (e : α → List T) (W : α → Prop) : Prop := ∀ (d : Nat) (ts : List T), IF P d t ts → ∃ x, ts = e x ∧ W x
theorem PP {t : TypeId} {k : IntKind} {e : Int → List T} (h : Nt P t k = true) (he : ∀ n, e n = [.val (.int k n)]) : NE P t e (fun n => (Lit.int k n).wf = true) := by
 intro d ts hf
 cases d with
 | zero => exact hf.elim
 | succ d =>
  unfold Nt at h
  unfold IF at hf
  split at h
  ·rename_i k' hu
   rw [hu] at hf
   obtain ⟨n, rfl, hw⟩ := hf
   have : k' = k := by simpa using h
   subst this
   exact ⟨n, (he n).symm, hw⟩
  ·cases h
theorem Rn {t : TypeId} {e : Bool → List T} (h : Ts P t = true) (he : ∀ n, e n = [.val (.bool n)]) : NE P t e (fun _ => True) := by
 intro d ts hf
 cases d with
 | zero => exact hf.elim
 | succ d =>
  unfold Ts at h
  unfold IF at hf
  split at h
  ·rename_i hu
   rw [hu] at hf
   obtain ⟨n, rfl⟩ := hf
   exact ⟨n, (he n).symm, trivial⟩
  ·cases h
theorem L0 {α : Type} {e : α → List T} {W : α → Prop} : ∀ (rows : List (List T)), (∀ row, row ∈ rows → ∃ x, row = e x ∧ W x) → ∃ xs : List α, rows = xs.map e ∧ ∀ x, x ∈ xs → W x
 | [], _ => ⟨[], rfl, fun x h => by cases h⟩
 | r :: rows, h => by
  obtain ⟨x, rfl, hx⟩ := h r (by simp)
  obtain ⟨xs, rfl, hxs⟩ := L0 rows (fun row hr => h row (by simp [hr]))
  exact ⟨x :: xs, rfl, fun y hy => by
   rcases vS.1 hy with e | e
   ·subst e; exact hx
   ·exact hxs y e⟩
theorem GP {α : Type} {t el : TypeId} {e : α → List T} {W : α → Prop} {e2 : List α → List T} (h : sliceB P t el = true) (he : NE P el e W) (h2 : ∀ xs, e2 xs = [.sl (xs.map e)]) : NE P t e2 (fun xs => ∀ x, x ∈ xs → W x) := by
 intro d ts hf
 cases d with
 | zero => exact hf.elim
 | succ d =>
  unfold sliceB at h
  unfold IF at hf
  split at h
  ·rename_i e' hu
   rw [hu] at hf
   obtain ⟨rows, rfl, hr⟩ := hf
   have : e' = el := by simpa using h
   subst this
   obtain ⟨xs, rfl, hxs⟩ := L0 rows (fun row hm => he d row (hr row hm))
   exact ⟨xs, (h2 xs).symm, hxs⟩
  ·cases h
def Fx (P : Program) (t : TypeId) : Option (List TypeId) := match P.underlying t with | some (.struct fs) => some (fs.toList.map (·.type)) | _ => none
theorem G6 {t : TypeId} {tys : List TypeId} (h : Fx P t = some tys) {d : Nat} {ts : List T} (hf : IF P d t ts) : ∃ d', Sf (IF P d') tys ts := by
 cases d with
 | zero => exact hf.elim
 | succ d =>
  unfold Fx at h
  unfold IF at hf
  split at h
  ·rename_i fs hu
   cases h
   rw [hu] at hf
   exact ⟨d, hf⟩
  ·cases h
theorem OX {t : TypeId} {tys : List TypeId} (h : Fx P t = some tys) (us : List T) : Uf P t us = .e (.agg (us.map .pure)) := by
 unfold Fx at h
 unfold Uf
 revert h
 cases P.underlying t with
 | none => intro h; cases h
 | some k => cases k <;> intro h <;> first | rfl | cases h
theorem Nq {d : Nat} {t : TypeId} {ts : List TypeId} {Ds : List D} (h : HY P d (t :: ts) Ds) : ∃ us xs, Ds = Uf P t us :: xs ∧ IF P d t us ∧ HY P d ts xs := by
 cases Ds with
 | nil => exact h.elim
 | cons x xs => obtain ⟨⟨us, h1, rfl⟩, h2⟩ := h; exact ⟨us, xs, rfl, h1, h2⟩
theorem OQ {d : Nat} {Ds : List D} (h : HY P d [] Ds) : Ds = [] := by
 cases Ds with
 | nil => rfl
 | cons x xs => exact h.elim
end
end Go.Lift
namespace Go.Lift
open List renaming mem_of_getElem? → lM
open List renaming getD_eq_getElem?_getD → lD
open Go.RowKit
variable {P : Program} {X : Gg} {ops : Array Oper}
instance : Inhabited Bl := ⟨.gone⟩
def GX (n m b : Nat) : Bool := if By b then Nat.blt (b - 90000) n else Nat.blt b m
def P5 (G : Gh) (n : Nat) (β : Nat) : Prop := ∃ k, k < n ∧ G.has (90000 + k) β
theorem G1 {k : Nat} (h : k < 1000) : By (90000 + k) = true := by
 unfold By
 rw [zC6 (by omega), zC6 (by omega)]; rfl
theorem Qm {k : Nat} (h : k < 900) : Mz (90000 + k) = true := by
 unfold Mz
 rw [uU]
 exact ⟨zC6 (by omega), zC6 (by omega)⟩
theorem H3 {b : Nat} (h : By b = true) : ∃ k, k < 1000 ∧ b = 90000 + k := by
 unfold By at h
 rw [uU] at h
 have h1 := vN h.1
 have h2 := vN h.2
 exact ⟨b - 90000, by omega, by omega⟩
def Do (P : Program) (f : FuncId) (args : List D) (lent : List (Bl × Bl)) (rv : List Bl) (res : D) : Prop :=
 ∀ (w : World) (G : Gh) (vs : Array Value), (∀ β, G.S β → β < w.heap.size) → RY P w G.S →
  (∀ (k : Nat) (x : Bl × Bl), lent[k]? = some x → D0 P w G (90000 + k) x.1) →
  (∀ k β, k < lent.length → G.has (90000 + k) β → β < w.heap.size ∧ ¬ G.S β) →
  (∀ k l β, k < lent.length → l < lent.length → G.has (90000 + k) β → G.has (90000 + l) β → k = l) →
  vs.size = args.length → (∀ (j : Nat) (d : D), args[j]? = some d → Fw P w G (Au vs j) d) →
  Calls P f vs w fun e w' => ∃ v G', e = .returned v ∧ Cx (P5 G lent.length) w.heap.size w w' ∧ (∀ β, G.S β → G'.S β) ∧ (∀ β, G'.S β → G.S β ∨ (w.heap.size ≤ β ∧ β < w'.heap.size)) ∧ Fw P w' G' v res ∧
   (∀ (k : Nat) (x : Bl × Bl), lent[k]? = some x → D0 P w' G' (90000 + k) x.2) ∧
   (∀ (k : Nat) (x : Bl), rv[k]? = some x → D0 P w' G' k x) ∧
   (∀ k, k < lent.length → G'.loc (90000 + k) = G.loc (90000 + k) ∧ G'.hd (90000 + k) = G.hd (90000 + k) ∧ G'.more (90000 + k) = G.more (90000 + k)) ∧
   (∀ k β, k < lent.length → G'.has (90000 + k) β → ¬ G'.S β) ∧
   (∀ k β, k < rv.length → G'.has k β → w.heap.size ≤ β ∧ β < w'.heap.size ∧ ¬ G'.S β) ∧
   (∀ k l β, k < rv.length → l < rv.length → G'.has k β → G'.has l β → k = l)
def MI (args : List D) (lent : List (Bl × Bl)) : St := ⟨fun s => args[s]?, fun b => if By b then (lent[b - 90000]?).map (·.1) else none⟩
def Nl (bx : Nat → Option Bl) (f : Nat → Nat) : Nat → List (Bl × Bl) → Prop
 | _, [] => True
 | k, x :: xs => bx (90000 + k) = some (x.2.ren f) ∧ Nl bx f (k + 1) xs
def Pm (bx : Nat → Option Bl) (f : Nat → Nat) : Nat → List Bl → Prop
 | _, [] => True
 | k, x :: xs => bx (1000 + k) = some (x.ren f) ∧ Pm bx f (k + 1) xs
theorem Kt {bx : Nat → Option Bl} {f : Nat → Nat} : ∀ {l : List (Bl × Bl)} {m : Nat}, Nl bx f m l → ∀ (k : Nat) (x : Bl × Bl), l[k]? = some x → bx (90000 + (m + k)) = some (x.2.ren f)
 | y :: rv, m, h, 0, x, hk => by simp at hk; subst hk; exact h.1
 | y :: rv, m, h, k + 1, x, hk => by
  have := Kt h.2 k x (by simpa using hk)
  rwa [show m + 1 + k = m + (k + 1) from by omega] at this
theorem Lu {bx : Nat → Option Bl} {f : Nat → Nat} : ∀ {l : List Bl} {m : Nat}, Pm bx f m l → ∀ (k : Nat) (x : Bl), l[k]? = some x → bx (1000 + (m + k)) = some (x.ren f)
 | y :: rv, m, h, 0, x, hk => by simp at hk; subst hk; exact h.1
 | y :: rv, m, h, k + 1, x, hk => by
  have := Lu h.2 k x (by simpa using hk)
  rwa [show m + 1 + k = m + (k + 1) from by omega] at this
def I3 (b : Nat) : Nat := if By b then b else 1000 + b
structure Q4 (P : Program) (rs : List ResultVar) (st : St) (lent : List (Bl × Bl)) (rv : List Bl) (res : D) : Prop where
 r : ∃ xs, U6 P st rs xs ∧ Vt xs = res.ren I3
 l : Nl st.bx I3 0 lent
 v : Pm st.bx I3 0 rv
def Gb (n m : Nat) (l : List Nat) : Bool := l.all (GX n m)
theorem Dc {f n : Nat} {fn : Func} {c : Code} {args : List D} {lent : List (Bl × Bl)} {rv : List Bl} {res : D} {rs : List ResultVar} (hf : P.funcs[f]? = some fn) (hb : fn.body = some c) (hn : fn.ntmps = n) (hrs : fn.results.toList = rs) (hl : args.length ≤ n) (hn9 : n ≤ 90000)
  (hargs : (args.all fun d => Gb lent.length 0 d.names) = true) (hpre : (lent.all fun x => Gb lent.length 0 x.1.names && x.1.real && x.2.real) = true) (hll : lent.length ≤ 900) (hrl : (rv.all fun x => x.real) = true) (hrn : rv.length ≤ 1000)
  (h : ∀ (w0 : World) (S0 : Nat → Prop) (GL : Gh), W P ⟨w0, S0, n, GL⟩ c (fun e st => match e with | .normal | .ret => Q4 P rs st lent rv res | _ => False) (MI args lent)) : Do P f args lent rv res := by
 subst hn; subst hrs
 intro w G vs hS hgk hlb hla hli hlen hrd
 refine calls_of_wp hf hb ?_
 have hcell : ∀ j, j < args.length → Au (vs ++ zD6 (fn.ntmps - vs.size) undef) j = Au vs j := fun j hj => Cv (by omega)
 -- the ghost that knows of what is lent alone
 let dom : Nat → Prop := fun b => By b = true ∧ b - 90000 < lent.length
 have hdec : ∀ b, Decidable (dom b) := fun b => inferInstanceAs (Decidable (_ ∧ _))
 let GL : Gh := { S := G.S, loc := fun b => if dom b then G.loc b else none, hd := fun b => if dom b then G.hd b else undef, more := fun b => if dom b then G.more b else fun _ => False }
 have hext : G.ext GL dom := ⟨fun _ h => h, fun b hb => if_pos hb, fun b hb => if_pos hb, fun b hb => if_pos hb⟩
 have hdomk : ∀ k, k < lent.length → dom (90000 + k) := fun k hk => ⟨G1 (by omega), by omega⟩
 have hin : ∀ b, GX lent.length 0 b = true → dom b := by
  intro b hb
  unfold GX at hb
  split at hb
  ·rename_i hl; exact ⟨hl, by rwa [zC2] at hb⟩
  ·simp [Nat.blt] at hb
 have hhas : ∀ b β, GL.has b β → dom b ∧ G.has b β := by
  intro b β hb
  by_cases hd : dom b
  ·exact ⟨hd, (hext.has hd).1 hb⟩
  ·exfalso
   unfold Gh.has at hb
   simp only [GL] at hb
   rw [if_neg hd, if_neg hd] at hb
   rcases hb with h | h
   ·cases h
   ·exact h
 have hlent : ∀ β, GL.lent β ↔ P5 G lent.length β := by
  intro β
  constructor
  ·rintro ⟨b, hb, hb2⟩
   obtain ⟨hd, hg⟩ := hhas b β hb2
   obtain ⟨k, _, rfl⟩ := H3 hb
   exact ⟨k, by have := hd.2; omega, hg⟩
  ·rintro ⟨k, hk, hg⟩
   exact ⟨90000 + k, G1 (by omega), (hext.has (hdomk k hk)).2 hg⟩
 have hbx : ∀ b k, (MI args lent).bx b = some k → dom b ∧ ∃ x, lent[b - 90000]? = some x ∧ x.1 = k := by
  intro b k hk
  simp only [MI] at hk
  split at hk
  ·rename_i hb
   cases hx : lent[b - 90000]? with
   | none => rw [hx] at hk; cases hk
   | some x => rw [hx] at hk; cases hk; exact ⟨⟨hb, AC hx⟩, x, rfl, rfl⟩
  ·cases hk
 have hdn : ∀ b, dom b → ((MI args lent).bx b).isSome = true := by
  intro b hb
  simp only [MI]
  rw [if_pos hb.1]
  simp [hb.2]
 have hpre' : ∀ x, x ∈ lent → Gb lent.length 0 x.1.names = true ∧ x.1.real = true ∧ x.2.real = true := fun x hx => by
  have := uT.1 hpre x hx
  rw [uU, uU] at this
  exact ⟨this.1.1, this.1.2, this.2⟩
 have hbk : ∀ b, dom b → b = 90000 + (b - 90000) := fun b hb => by obtain ⟨k, _, e⟩ := H3 hb.1; omega
 have hinit : Cu P ⟨w, G.S, fn.ntmps, GL⟩ GL (MI args lent) { tmps := vs ++ zD6 (fn.ntmps - vs.size) undef, defers := [] } w := by
  refine { S_lt := hS, S_src := fun β h => .inl h, S_0 := fun β h => h, S0_lt := hS, tsz := by simp; omega, defers := rfl, below := Cx.refl _ _ _, gok := hgk, nlt := hn9, lent := fun _ _ => ⟨rfl, rfl, rfl⟩, blk := ?_, at_ok := ?_, at_inj := ?_, env := ?_, live := ?_, liveB := ?_ }
  ·intro b k hk
   obtain ⟨hd, x, hx, rfl⟩ := hbx b k hk
   have h1 := hlb _ x hx
   rw [← hbk b hd] at h1
   exact h1.mono hext hd (fun _ _ => rfl) (fun _ _ _ => rfl) fun c hc => hin c (uT.1 (hpre' x (lM hx)).1 c hc)
  ·intro b k β hk hr hβ
   obtain ⟨hd, hg⟩ := hhas b β hβ
   rw [hbk b hd] at hg
   have := hla _ β hd.2 hg
   exact ⟨⟨fun h3 => (by rw [hd.1] at h3; cases h3), .inr ⟨b, hd.1, hβ⟩⟩, this.1, this.2⟩
  ·intro b c k l β hk hl hr hr' hβ hβ'
   obtain ⟨hd, hg⟩ := hhas b β hβ
   obtain ⟨hd', hg'⟩ := hhas c β hβ'
   rw [hbk b hd] at hg
   rw [hbk c hd'] at hg'
   have := hli _ _ β hd.2 hd'.2 hg hg'
   rw [hbk b hd, hbk c hd', this]
  ·intro s d hs
   have hs' : args[s]? = some d := hs
   rw [hcell s (AC hs')]
   exact (hrd s d hs').mono hext (fun _ _ => rfl) fun b hb => hin b (uT.1 (uT.1 hargs d (lM hs')) b hb)
  ·intro s d hs b hb
   have hs' : args[s]? = some d := hs
   exact hdn b (hin b (uT.1 (uT.1 hargs d (lM hs')) b hb))
  ·intro b k hk c hc
   obtain ⟨hd, x, hx, rfl⟩ := hbx b k hk
   exact hdn c (hin c (uT.1 (hpre' x (lM hx)).1 c hc))
 refine wp_mono (h w G.S GL _ w ⟨_, hinit⟩) ?_
 rintro e a' w' ⟨st', hq, G2, hs⟩
 have key : Q4 P fn.results.toList st' lent rv res → a'.defers = [] ∧ ∃ v, (results fn a'.tmps).run P w' = .ok v w' ∧ ∃ v' G', Ending.returned v = .returned v' ∧ Cx (P5 G lent.length) w.heap.size w w' ∧ (∀ β, G.S β → G'.S β) ∧ (∀ β, G'.S β → G.S β ∨ (w.heap.size ≤ β ∧ β < w'.heap.size)) ∧ Fw P w' G' v' res ∧
   (∀ (k : Nat) (x : Bl × Bl), lent[k]? = some x → D0 P w' G' (90000 + k) x.2) ∧
   (∀ (k : Nat) (x : Bl), rv[k]? = some x → D0 P w' G' k x) ∧
   (∀ k, k < lent.length → G'.loc (90000 + k) = G.loc (90000 + k) ∧ G'.hd (90000 + k) = G.hd (90000 + k) ∧ G'.more (90000 + k) = G.more (90000 + k)) ∧
   (∀ k β, k < lent.length → G'.has (90000 + k) β → ¬ G'.S β) ∧
   (∀ k β, k < rv.length → G'.has k β → w.heap.size ≤ β ∧ β < w'.heap.size ∧ ¬ G'.S β) ∧
   (∀ k l β, k < rv.length → l < rv.length → G'.has k β → G'.has l β → k = l) := by
  rintro ⟨⟨xs, hr1, hr2⟩, hlp, hv⟩
  obtain ⟨us, h1, h2, h3⟩ := hs.rrs hr1
  have hoL : ∀ k, k < lent.length → I3 (90000 + k) = 90000 + k := fun k hk => by unfold I3; rw [G1 (by omega)]; rfl
  have hoN : ∀ k, k < rv.length → I3 k = 1000 + k := fun k hk => by unfold I3; rw [HN (show k < 1000 by omega) (by omega)]; rfl
  have hbl : ∀ (k : Nat) (x : Bl × Bl), lent[k]? = some x → st'.bx (90000 + k) = some (x.2.ren I3) := fun k x hk => by
   have := Kt hlp k x hk
   rwa [uZ] at this
  have hbv : ∀ (k : Nat) (x : Bl), rv[k]? = some x → st'.bx (1000 + k) = some (x.ren I3) := fun k x hk => by
   have := Lu hv k x hk
   rwa [uZ] at this
  have hreal : ∀ (k : Nat) (x : Bl), rv[k]? = some x → (x.ren I3).real = true := fun k x hk => by
   rw [HJ]; exact uT.1 hrl x (lM hk)
  have hgl : ∀ k, k < lent.length → G2.loc (90000 + k) = G.loc (90000 + k) ∧ G2.hd (90000 + k) = G.hd (90000 + k) ∧ G2.more (90000 + k) = G.more (90000 + k) := fun k hk => by
   obtain ⟨e1, e2, e3⟩ := hs.lent (90000 + k) (Qm (by omega))
   exact ⟨e1.trans (hext.loc _ (hdomk k hk)), e2.trans (hext.hd _ (hdomk k hk)), e3.trans (hext.more _ (hdomk k hk))⟩
  refine ⟨hs.defers, (if h : us.toArray.size = 1 then us.toArray[0] else .tuple us.toArray), ?_, _, { S := G2.S, loc := fun b => G2.loc (I3 b), hd := fun b => G2.hd (I3 b), more := fun b => G2.more (I3 b) }, rfl, ?_, hs.S_0, ?_, ?_, ?_, ?_, ?_, ?_, ?_, ?_⟩
  ·unfold results
   refine Ag (a := us.toArray) (w1 := w') ?_ rfl
   rw [Array.mapM_eq_mapM_toList]
   simp only [Sem.run_map]
   exact congrArg (fun r => Result.andThen r fun a w' => Result.ok a.toArray w') h1
  ·have hb := hs.below
   exact ⟨hb.os, hb.tape, hb.output, hb.size, hb.drawn, fun k hk hl => hb.block k hk fun h => hl ((hlent k).1 h)⟩
  ·intro β hβ
   rcases hs.S_src β hβ with h | h
   ·exact .inl h
   ·exact .inr ⟨h, hs.S_lt β hβ⟩
  ·refine HQ (f := I3) ?_
   rw [← hr2]
   match xs, us, h2 with
   | [], [], _ => exact ⟨#[], rfl, rfl, fun j x h => by simp at h⟩
   | [x], [u], _ => exact h3 0 u x rfl rfl
   | x :: y :: xs, u :: u' :: us, hl2 =>
    refine ⟨(u :: u' :: us).toArray, by simp, by simpa using hl2, fun j z hj => ?_⟩
    have hlt := AC hj
    have hu : (u :: u' :: us)[j]? = some ((u :: u' :: us)[j]'(by rw [hl2]; exact hlt)) := by rw [vM]
    have := h3 j _ z hu hj
    have hc : Au (u :: u' :: us).toArray j = (u :: u' :: us)[j]'(by rw [hl2]; exact hlt) := by
     unfold Au
     rw [List.getElem?_toArray, hu]; rfl
    rw [hc]; exact this
  ·intro k x hk
   refine H6 (f := I3) ?_
   rw [hoL k (AC hk)]
   exact hs.blk _ _ (hbl k x hk)
  ·intro k x hk
   refine H6 (f := I3) ?_
   rw [hoN k (AC hk)]
   exact hs.blk _ _ (hbv k x hk)
  ·intro k hk
   simp only [hoL k hk]
   exact hgl k hk
  ·intro k β hk hβ
   have hx : lent[k]? = some lent[k] := by simp [hk]
   have hβ : G2.has (90000 + k) β := by
    unfold Gh.has at hβ ⊢
    simp only [hoL k hk] at hβ
    exact hβ
   exact (hs.at_ok _ _ β (hbl k _ hx) (by rw [HJ]; exact (hpre' _ (lM hx)).2.2) hβ).2.2
  ·intro k β hk hβ
   have hx : rv[k]? = some rv[k] := by simp [hk]
   have hβ : G2.has (1000 + k) β := by
    unfold Gh.has at hβ ⊢
    simp only [hoN k hk] at hβ
    exact hβ
   have := hs.at_ok _ _ β (hbv k _ hx) (hreal k _ hx) hβ
   exact ⟨this.1.1 (HN (show 1000 + k < 3000 by omega) (by omega)), this.2⟩
  ·intro k l β hk hl hβ hβ'
   have hx : rv[k]? = some rv[k] := by simp [hk]
   have hx' : rv[l]? = some rv[l] := by simp [hl]
   have hβ : G2.has (1000 + k) β := by
    unfold Gh.has at hβ ⊢
    simp only [hoN k hk] at hβ
    exact hβ
   have hβ' : G2.has (1000 + l) β := by
    unfold Gh.has at hβ' ⊢
    simp only [hoN l hl] at hβ'
    exact hβ'
   have := hs.at_inj _ _ _ _ β (hbv k _ hx) (hbv l _ hx') (hreal k _ hx) (hreal l _ hx') hβ hβ'
   omega
 cases e with
 | normal => exact key hq
 | ret => exact key hq
 | _ => exact hq.elim
def nu (ls ns : List Nat) (b : Nat) : Nat := if By b then ls.getD (b - 90000) 0 else ns.getD b 0
def LV (f : Nat → Nat) : List Nat → List (Bl × Bl) → List (Nat × Bl)
 | l :: ls, x :: xs => (l, x.1.ren f) :: LV f ls xs
 | _, _ => []
def G7 (f : Nat → Nat) : List Nat → List (Bl × Bl) → List Bool → List (Nat × Bl) → List (Nat × Bl)
 | l :: ls, x :: xs, c :: cs, r => if c then (l, x.2.ren f) :: G7 f ls xs cs r else G7 f ls xs cs r
 | _, _, _, r => r
def newB (f : Nat → Nat) : List Nat → List Bl → List (Nat × Bl)
 | n :: ns, x :: xs => (n, x.ren f) :: newB f ns xs
 | _, _ => []
def PC : List (Bl × Bl) → List Bool → Prop
 | x :: xs, c :: cs => (c = false → x.1 = x.2) ∧ PC xs cs
 | [], [] => True
 | _, _ => False
theorem MN {f : Nat → Nat} {bx : Nat → Option Bl} : ∀ {ls : List Nat} {lent : List (Bl × Bl)}, ls.length = lent.length → F9 bx (LV f ls lent) → ∀ (k : Nat) (x : Bl × Bl), lent[k]? = some x → bx (nm ls k) = some (x.1.ren f)
 | [], [], _, _, k, y, hk => by simp at hk
 | l :: ls, x :: xs, hl, h, 0, y, hk => by simp at hk; subst hk; exact h.1
 | l :: ls, x :: xs, hl, h, k + 1, y, hk => by
  have := MN (ls := ls) (lent := xs) (by simpa using hl) h.2 k y (by simpa using hk)
  simpa [nm] using this
theorem MR {f : Nat → Nat} {bx : Nat → Option Bl} {r : List (Nat × Bl)} : ∀ {ls : List Nat} {lent : List (Bl × Bl)} {ch : List Bool}, ls.length = lent.length → ls.Nodup → PC lent ch → (∀ c, c ∈ ls → Bx bx r c = bx c) → F9 bx (LV f ls lent) →
  (∀ c, c ∉ ls → Bx bx (G7 f ls lent ch r) c = Bx bx r c) ∧ ∀ (k : Nat) (x : Bl × Bl), lent[k]? = some x → Bx bx (G7 f ls lent ch r) (nm ls k) = some (x.2.ren f)
 | [], [], [], _, _, _, _, _ => ⟨fun _ _ => rfl, fun k x h => by simp at h⟩
 | [], [], _ :: _, _, _, h, _, _ => h.elim
 | l :: ls, x :: xs, [], hl, hnd, hc, hr, hp => by cases hc
 | l :: ls, x :: xs, c :: cs, hl, hnd, hc, hr, hp => by
  have ih := MR (f := f) (bx := bx) (r := r) (ls := ls) (lent := xs) (ch := cs) (by simpa using hl) (zB1.1 hnd).2 hc.2 (fun c hc => hr c (by simp [hc])) hp.2
  have hln : l ∉ ls := (zB1.1 hnd).1
  have hl0 : Bx bx (G7 f ls xs cs r) l = bx l := (ih.1 l hln).trans (hr l (by simp))
  refine ⟨fun d hd => ?_, fun k y hk => ?_⟩
  ·simp only [vS, not_or] at hd
   simp only [G7]
   split
   ·simp only [Bx]; rw [if_neg hd.1]; exact ih.1 d hd.2
   ·exact ih.1 d hd.2
  ·cases k with
   | zero =>
    simp at hk; subst hk
    simp only [G7, nm, List.getD_cons_zero]
    split
    ·simp [Bx]
    ·rename_i hcc
     have hcf : c = false := by simpa using hcc
     rw [hl0, hp.1, hc.1 hcf]
   | succ k =>
    have hk' : xs[k]? = some y := by simpa using hk
    have hlt := AC hk'
    have hlt2 : k < ls.length := by simp at hl; omega
    have e : nm (l :: ls) (k + 1) = nm ls k := by simp [nm]
    rw [e]
    have hne : nm ls k ≠ l := fun h => hln (h ▸ Ee hlt2)
    simp only [G7]
    split
    ·simp only [Bx]; rw [if_neg hne]; exact ih.2 k y hk'
    ·exact ih.2 k y hk'
theorem Li {f : Nat → Nat} {bx : Nat → Option Bl} : ∀ {ns : List Nat} {rv : List Bl} {c : Nat}, ns.length = rv.length → ns.Nodup →
  (c ∉ ns → Bx bx (newB f ns rv) c = bx c) ∧ ∀ (k : Nat) (x : Bl), rv[k]? = some x → Bx bx (newB f ns rv) (nm ns k) = some (x.ren f)
 | [], [], c, _, _ => ⟨fun _ => rfl, fun k x h => by simp at h⟩
 | n :: ns, x :: xs, c, hl, hnd => by
  have ih := Li (f := f) (bx := bx) (ns := ns) (rv := xs) (c := c) (by simpa using hl) (zB1.1 hnd).2
  refine ⟨fun hc => ?_, fun k y hk => ?_⟩
  ·simp only [vS, not_or] at hc
   simp only [newB, Bx]
   rw [if_neg hc.1]; exact ih.1 hc.2
  ·cases k with
   | zero => simp at hk; subst hk; simp [newB, Bx, nm]
   | succ k =>
    have hk' : xs[k]? = some y := by simpa using hk
    have hlt := AC hk'
    have hlt2 : k < ns.length := by simp at hl; omega
    have : nm (n :: ns) (k + 1) = nm ns k := by simp [nm]
    rw [this]
    have hne : nm ns k ≠ n := fun e => (zB1.1 hnd).1 (e ▸ Ee hlt2)
    simp only [newB, Bx]
    rw [if_neg hne]
    exact (Li (f := f) (bx := bx) (ns := ns) (rv := xs) (c := c) (by simpa using hl) (zB1.1 hnd).2).2 k y hk'
theorem FO {ls ns : List Nat} {k : Nat} (h : k < 1000) : nu ls ns (90000 + k) = nm ls k := by
 unfold nu nm; rw [G1 h, if_pos rfl, show 90000 + k - 90000 = k from by omega]
theorem Kg {ls ns : List Nat} {k : Nat} (h : k < 90000) : nu ls ns k = nm ns k := by
 unfold nu nm; rw [HN h (zC1 _), if_neg (by simp)]
theorem LH {bx : Nat → Option Bl} {c : Nat} : ∀ {wb : List (Nat × Bl)}, (bx c).isSome = true → (Bx bx wb c).isSome = true
 | [], h => h
 | p :: ps, h => by
  simp only [Bx]; split
  ·rfl
  ·exact LH h
section run
variable {dr : Bool} {Q : St → Prop} {r i : Nat} {st : St} {log : List (Nat × BZ)} {o : Oper} {gs : List (Operand × D)}
theorem QY {f s : Nat} {xs : List Operand} {ds0 ds : List D} {lent : List (Bl × Bl)} {rv : List Bl} {res : D} {ts : Array TypeId} (ls ns : List Nat) (ch : List Bool) (hc : Do P f ds lent rv res) (hat : At st.env ops i X.n (.call ⟨.value (.func f), xs.toArray, ts⟩) s gs)
  (hf : Az P f = true) (hl : xs.length = ds0.length) (hds : ds0.map D.nrm = ds.map (D.ren (nu ls ns)))
  (hll : ls.length = lent.length) (hln : ls.Nodup) (hns : ns.length = rv.length) (hndl : Ih ns) (hch : PC lent ch)
  (hlim : (zB7 lent.length 1000 && zB7 rv.length 1000) = true) (hre : (lent.all fun x => x.1.real && x.2.real) = true)
  (hnm : (Gb lent.length rv.length res.names && (lent.all fun x => Gb lent.length rv.length x.2.names) && rv.all fun x => Gb lent.length rv.length x.names) = true) : LR P X ops i ⟨gs ++ F0 xs ds0, LV (nu ls ns) ls lent, some s, some (res.ren (nu ls ns)), G7 (nu ls ns) ls lent ch (newB (nu ls ns) ns rv), ns⟩ := by
 obtain ⟨o, ho, hop, hd, hn, hg, hgp⟩ := hat.out
 have hnd := hndl.1
 rw [uU] at hlim
 have hlim1 := vN hlim.1
 have hlim2 := vN hlim.2
 rw [uU, uU] at hnm
 obtain ⟨⟨hnmR, hnmL⟩, hnmV⟩ := hnm
 have hre' : ∀ x, x ∈ lent → x.1.real = true ∧ x.2.real = true := fun x hx => by
  have := uT.1 hre x hx
  rw [uU] at this
  exact this
 intro st a w K Q' hs hpre hK
 obtain ⟨G, hs⟩ := hs
 have hx := (Ak.1 hpre.r).2
 have hw := hs.wanted hg (Ak.1 hpre.r).1
 have hnew := hpre.n
 have hlb := hpre.b
 have hnew' : ∀ c, c ∈ ns → st.bx c = none := by
  have : ∀ {l : List Nat}, J6 st.bx l → ∀ c, c ∈ l → st.bx c = none := by
   intro l
   induction l with
   | nil => intro _ c hc; cases hc
   | cons b l ih =>
    intro h c hc
    rcases vS.1 hc with e | e
    ·subst e; exact h.1
    ·exact ih h.2 c e
  exact this hnew
 have hget := fun k x hk => MN (f := nu ls ns) hll hlb k x hk
 have hlk : ∀ k, k < lent.length → st.bx (nm ls k) = some (lent[k]!.1.ren (nu ls ns)) ∧ (lent[k]!.1.ren (nu ls ns)).real = true := fun k hk => by
  have hx0 : lent[k]? = some lent[k]! := by simp [hk]
  exact ⟨hget k _ hx0, by rw [HJ]; exact (hre' _ (lM hx0)).1⟩
 have hlsns : ∀ c, c ∈ ls → c ∉ ns := fun c hc hm => by
  obtain ⟨k, hk, e⟩ := Ls hc
  have := (hlk k (by omega)).1
  rw [e, hnew' c hm] at this; cases this
 unfold wpOp
 rw [ho]
 simp only [hw, if_true]
 refine .inl ?_
 unfold Oper.wp
 have hrun : (execOp a.eval o).run P w = .ok (.enter f (xs.toArray.map a.eval)) w := by
  simp only [execOp, hop]
  exact II hf rfl
 rw [hrun]
 show Calls P f (xs.toArray.map a.eval) w _
 let Gc : Gh := { S := G.S, loc := fun b => G.loc (nu ls ns b), hd := fun b => G.hd (nu ls ns b), more := fun b => G.more (nu ls ns b) }
 have hGc : ∀ k β, k < lent.length → (Gc.has (90000 + k) β ↔ G.has (nm ls k) β) := fun k β hk => by
  unfold Gh.has; simp only [Gc]; rw [FO (by omega)]
 refine (hc w Gc (xs.toArray.map a.eval) hs.S_lt hs.gok ?_ ?_ ?_ ?_ ?_).mono ?_
 ·intro k x hk
  refine H6 (f := nu ls ns) ?_
  rw [FO (by have := AC hk; omega)]
  exact hs.blk _ _ (hget k x hk)
 ·intro k β hk hβ
  have h1 := hlk k hk
  exact (hs.at_ok _ _ β h1.1 h1.2 ((hGc k β hk).1 hβ)).2
 ·intro k l β hk hl' hβ hβ'
  have h1 := hlk k hk
  have h2 := hlk l hl'
  have := hs.at_inj _ _ _ _ β h1.1 h2.1 h1.2 h2.2 ((hGc k β hk).1 hβ) ((hGc l β hl').1 hβ')
  exact NL hln (by omega) (by omega) this
 ·have h1 := congrArg zC7 hds
  simp at h1
  simp; omega
 ·intro j d hj
  have hj2 : (ds.map (D.ren (nu ls ns)))[j]? = some (d.ren (nu ls ns)) := by rw [uX, hj]; rfl
  rw [← hds, uX] at hj2
  obtain ⟨d0, hj0, hd0⟩ : ∃ d0, ds0[j]? = some d0 ∧ d0.nrm = d.ren (nu ls ns) := by
   cases hx0 : ds0[j]? with
   | none => rw [hx0] at hj2; cases hj2
   | some d0 => rw [hx0] at hj2; exact ⟨d0, rfl, by simpa using hj2⟩
  have hlt := AC hj0
  have hxj : xs[j]? = some (xs[j]'(by omega)) := by simp [show j < xs.length from by omega]
  have hop' := HF hl hx j _ d0 hxj hj0
  have hcell : Au (xs.toArray.map a.eval) j = a.eval (xs[j]'(by omega)) := by simp [Au, show j < xs.length from by omega]
  rw [hcell]
  refine HQ (f := nu ls ns) ?_
  rw [← hd0]
  exact (hs.opd hop').nrm
 ·rintro e w' ⟨v, G', rfl, hbel, hS1, hS2, hres', hpost, hvec, hsame, hlS, hvat, hvinj⟩
  show K (a.put o.dst v) w'
  rw [hd]
  let G2 : Gh := { S := G'.S, loc := fun c => if c ∈ ns then G'.loc (ns.idxOf c) else G.loc c, hd := fun c => if c ∈ ns then G'.hd (ns.idxOf c) else G.hd c, more := fun c => if c ∈ ns then G'.more (ns.idxOf c) else G.more c }
  have hidx : ∀ k, k < ns.length → ns.idxOf (nm ns k) = k := by
   intro k hk
   have hm := Ee hk
   have h1 : ns.idxOf (nm ns k) < ns.length := List.idxOf_lt_length_of_mem hm
   refine NL hnd h1 hk ?_
   have h2 := List.getElem_idxOf h1
   show ns.getD (ns.idxOf (nm ns k)) 0 = nm ns k
   rw [lD, vM h1, vZ, h2]
  have hvia : G'.via G2 (nu ls ns) (fun b => GX lent.length rv.length b = true) := by
   have key : ∀ b, GX lent.length rv.length b = true → (∃ k, k < lent.length ∧ b = 90000 + k) ∨ (b < rv.length ∧ By b = false) := by
    intro b hb
    unfold GX at hb
    split at hb
    ·rename_i h
     obtain ⟨k, _, rfl⟩ := H3 h
     rw [zC2] at hb
     exact .inl ⟨k, by omega, rfl⟩
    ·rename_i h
     rw [zC2] at hb
     exact .inr ⟨hb, by simpa using h⟩
   refine ⟨fun β h => h, fun b hb => ?_, fun b hb => ?_, fun b hb => ?_⟩
   ·rcases key b hb with ⟨k, hk, rfl⟩ | ⟨hb1, hb2⟩
    ·rw [FO (by omega)]
     have hni : nm ls k ∉ ns := hlsns _ (Ee (by omega))
     simp only [G2]; rw [if_neg hni, (hsame k hk).1]; simp only [Gc]; rw [FO (by omega)]
    ·rw [Kg (by omega)]
     simp only [G2]; rw [if_pos (Ee (by omega)), hidx b (by omega)]
   ·rcases key b hb with ⟨k, hk, rfl⟩ | ⟨hb1, hb2⟩
    ·rw [FO (by omega)]
     have hni : nm ls k ∉ ns := hlsns _ (Ee (by omega))
     simp only [G2]; rw [if_neg hni, (hsame k hk).2.1]; simp only [Gc]; rw [FO (by omega)]
    ·rw [Kg (by omega)]
     simp only [G2]; rw [if_pos (Ee (by omega)), hidx b (by omega)]
   ·rcases key b hb with ⟨k, hk, rfl⟩ | ⟨hb1, hb2⟩
    ·rw [FO (by omega)]
     have hni : nm ls k ∉ ns := hlsns _ (Ee (by omega))
     simp only [G2]; rw [if_neg hni, (hsame k hk).2.2]; simp only [Gc]; rw [FO (by omega)]
    ·rw [Kg (by omega)]
     simp only [G2]; rw [if_pos (Ee (by omega)), hidx b (by omega)]
  have hext : G.ext G2 (fun b => (st.bx b).isSome = true) := by
   have : ∀ b, (st.bx b).isSome = true → b ∉ ns := fun b hb hm => by rw [hnew' b hm] at hb; cases hb
   exact ⟨fun β h => hS1 β h, fun b hb => by simp only [G2]; rw [if_neg (this b hb)], fun b hb => by simp only [G2]; rw [if_neg (this b hb)], fun b hb => by simp only [G2]; rw [if_neg (this b hb)]⟩
  have hnotL : ∀ β, P5 Gc lent.length β → ∃ k, k < lent.length ∧ G.has (nm ls k) β := fun β ⟨k, hk, hb⟩ => ⟨k, hk, (hGc k β hk).1 hb⟩
  have hwS : ∀ β, G.S β → w'.heap[β]? = w.heap[β]? := fun β hβ => hbel.block β (hs.S_lt β hβ) fun h => by
   obtain ⟨k, hk, hg⟩ := hnotL β h
   exact (hs.at_ok _ _ β (hlk k hk).1 (hlk k hk).2 hg).2.2 hβ
  have hsz := hbel.size
  have hle := hs.below.size
  have hng := fun c => Li (f := nu ls ns) (bx := st.bx) (ns := ns) (rv := rv) (c := c) hns hnd
  have hbg := MR (f := nu ls ns) (bx := st.bx) (r := newB (nu ls ns) ns rv) (ls := ls) (lent := lent) (ch := ch) hll hln hch (fun c hc => (hng c).1 (hlsns c hc)) hlb
  have hblk : ∀ c k, Bx st.bx (G7 (nu ls ns) ls lent ch (newB (nu ls ns) ns rv)) c = some k →
    (c ∉ ns ∧ c ∉ ls ∧ st.bx c = some k) ∨ (∃ m x, m < ns.length ∧ nm ns m = c ∧ rv[m]? = some x ∧ k = x.ren (nu ls ns)) ∨ (∃ m x, m < ls.length ∧ nm ls m = c ∧ lent[m]? = some x ∧ k = x.2.ren (nu ls ns)) := by
   intro c k hc
   by_cases hm : c ∈ ls
   ·obtain ⟨m, hm1, hm2⟩ := Ls hm
    have hlx : lent[m]? = some (lent[m]'(by omega)) := by simp [show m < lent.length from by omega]
    have := hbg.2 m _ hlx
    rw [hm2, hc] at this
    exact .inr (.inr ⟨m, _, hm1, hm2, hlx, by simpa using this⟩)
   ·rw [hbg.1 c hm] at hc
    by_cases hm2 : c ∈ ns
    ·obtain ⟨m, hm1, hm3⟩ := Ls hm2
     have hrx : rv[m]? = some (rv[m]'(by omega)) := by simp [show m < rv.length from by omega]
     have := (hng c).2 m _ hrx
     rw [hm3, hc] at this
     exact .inr (.inl ⟨m, _, hm1, hm3, hrx, by simpa using this⟩)
    ·rw [(hng c).1 hm2] at hc; exact .inl ⟨hm2, hm, hc⟩
  have hdom : ∀ b, GX lent.length rv.length b = true → (Bx st.bx (G7 (nu ls ns) ls lent ch (newB (nu ls ns) ns rv)) (nu ls ns b)).isSome = true := by
   intro b hb
   unfold GX at hb
   split at hb
   ·rename_i h
    obtain ⟨k, _, rfl⟩ := H3 h
    rw [zC2] at hb
    have hk : k < lent.length := by omega
    rw [FO (by omega), hbg.2 k _ (show lent[k]? = some lent[k] by simp [hk])]; rfl
   ·rename_i h
    rw [zC2] at hb
    have hni : nm ns b ∉ ls := fun hm => hlsns _ hm (Ee (by omega))
    rw [Kg (by omega), hbg.1 _ hni, (hng (nm ns b)).2 b _ (show rv[b]? = some rv[b] by simp [hb])]; rfl
  have hren : ∀ l : List Nat, Gb lent.length rv.length l = true → ∀ b, b ∈ l → GX lent.length rv.length b = true := fun l h b hb => uT.1 h b hb
  have hrenB : ∀ (k : Bl) b, b ∈ (k.ren (nu ls ns)).names → ∃ b0, b0 ∈ k.names ∧ b = nu ls ns b0 := by
   intro k b hb
   cases k with
   | box cs =>
    obtain ⟨c, hc, hb⟩ := Ba.1 hb
    obtain ⟨c0, h0, rfl⟩ := zA5.1 hc
    obtain ⟨b0, h1, h2⟩ := Iv hb
    exact ⟨b0, Ba.2 ⟨c0, h0, h1⟩, h2⟩
   | vec e rows => cases hb
   | mp es => cases hb
   | dvec e cols rs => cases hb
   | pvec n e cols rs => cases hb
   | hol e cols i0 k0 c rs => exact ⟨c, by simp [Bl.names], by simpa [Bl.ren, Bl.names] using hb⟩
   | gone => cases hb
  have hhasN : ∀ m β, m < ns.length → (G2.has (nm ns m) β ↔ G'.has m β) := fun m β hm => by
   have hmd : GX lent.length rv.length m = true := by
    unfold GX; rw [HN (show m < 90000 by omega) (zC1 _), if_neg (by simp), zC2]; omega
   have := hvia.has (β := β) hmd
   rwa [Kg (by omega)] at this
  have key : Cu P X G2 ⟨st.env, Bx st.bx (G7 (nu ls ns) ls lent ch (newB (nu ls ns) ns rv))⟩ a w' := by
   refine hs.frame (fun c hc => LH hc) hext hwS ?_ ?_ ?_ ?_ ?_ ?_ (fun b hb => by
    have : b ∉ ns := fun hm => by rw [hndl.2 b hm] at hb; cases hb
    simp only [G2]; rw [if_neg this, if_neg this, if_neg this]; exact ⟨rfl, rfl, rfl⟩)
   ·intro c k hc
    rcases hblk c k hc with ⟨_, h0, h1⟩ | ⟨m, x, h1, h2, h3, h4⟩ | ⟨m, x, h1, h2, h3, h4⟩
    ·refine .inl ⟨h1, fun β hr hβ => hbel.block β (hs.at_ok c k β h1 hr hβ).2.1 fun hL => ?_⟩
     obtain ⟨j, hj, hg⟩ := hnotL β hL
     exact h0 ((hs.at_inj _ _ _ _ β h1 (hlk j hj).1 hr (hlk j hj).2 hβ hg) ▸ Ee (by omega))
    ·subst h4
     have hmd : GX lent.length rv.length m = true := by
      unfold GX; rw [HN (show m < 90000 by omega) (zC1 _), if_neg (by simp), zC2]; omega
     have hxn := hren _ (uT.1 hnmV x (lM h3))
     refine .inr ⟨?_, fun c' hc' => ?_⟩
     ·have := (hvec m x h3).ren hvia hmd hxn
      rwa [Kg (by omega), h2] at this
     ·obtain ⟨b0, hb0, rfl⟩ := hrenB x c' hc'
      exact hdom b0 (hxn b0 hb0)
    ·subst h4
     have hmd : GX lent.length rv.length (90000 + m) = true := by
      unfold GX; rw [G1 (by omega), if_pos rfl, zC2]; omega
     have hxn := hren _ (uT.1 hnmL x (lM h3))
     refine .inr ⟨?_, fun c' hc' => ?_⟩
     ·have := (hpost m x h3).ren hvia hmd hxn
      rwa [FO (by omega), h2] at this
     ·obtain ⟨b0, hb0, rfl⟩ := hrenB x.2 c' hc'
      exact hdom b0 (hxn b0 hb0)
   ·intro c k β hc hr hβ
    rcases hblk c k hc with ⟨h0, _, h1⟩ | ⟨m, x, h1, h2, h3, h4⟩ | ⟨m, x, h1, h2, h3, h4⟩
    ·have hβ := (hext.has (by rw [h1]; rfl)).1 hβ
     have := hs.at_ok c k β h1 hr hβ
     refine ⟨this.1, by omega, fun h => ?_⟩
     rcases hS2 β h with h | h
     ·exact this.2.2 h
     ·omega
    ·rw [← h2, hhasN m β h1] at hβ
     have := hvat m β (by omega) hβ
     exact ⟨.new (by omega), this.2.1, this.2.2⟩
    ·subst h2
     have h5 := hlk m (by omega)
     have hβ := (hext.has (by rw [h5.1]; rfl)).1 hβ
     have := hs.at_ok _ _ β h5.1 h5.2 hβ
     refine ⟨this.1, by omega, hlS m β (by omega) ?_⟩
     have h6 := hsame m (by omega)
     unfold Gh.has at hβ ⊢
     rw [h6.1, h6.2.2]
     simp only [Gc]; rw [FO (by omega)]; exact hβ
   ·intro c c' k k' β hc hc' hr hr' hβ hβ'
    have old : ∀ c k, Bx st.bx (G7 (nu ls ns) ls lent ch (newB (nu ls ns) ns rv)) c = some k → k.real = true → G2.has c β → (∃ k0, st.bx c = some k0 ∧ k0.real = true ∧ G.has c β) ∨ ∃ m, m < ns.length ∧ nm ns m = c ∧ G'.has m β := by
     intro c k hc hr hβ
     rcases hblk c k hc with ⟨h0, _, h1⟩ | ⟨m, x, h1, h2, h3, h4⟩ | ⟨m, x, h1, h2, h3, h4⟩
     ·exact .inl ⟨k, h1, hr, (hext.has (by rw [h1]; rfl)).1 hβ⟩
     ·rw [← h2, hhasN m β h1] at hβ
      exact .inr ⟨m, h1, h2, hβ⟩
     ·subst h2
      have h5 := hlk m (by omega)
      exact .inl ⟨_, h5.1, h5.2, (hext.has (by rw [h5.1]; rfl)).1 hβ⟩
    rcases old c k hc hr hβ with ⟨k0, h1, h2, h3⟩ | ⟨m, h1, h2, h3⟩ <;> rcases old c' k' hc' hr' hβ' with ⟨k0', h1', h2', h3'⟩ | ⟨m', h1', h2', h3'⟩
    ·exact hs.at_inj c c' k0 k0' β h1 h1' h2 h2' h3 h3'
    ·have h5 := hvat m' β (by omega) h3'
     have h6 := (hs.at_ok c k0 β h1 h2 h3).2.1
     omega
    ·have h5 := hvat m β (by omega) h3
     have h6 := (hs.at_ok c' k0' β h1' h2' h3').2.1
     omega
    ·have := hvinj m m' β (by omega) (by omega) h3 h3'
     rw [← h2, ← h2', this]
   ·intro β h
    rcases hS2 β h with h | h
    ·have := hs.S_lt β h; omega
    ·exact h.2
   ·intro β h
    rcases hS2 β h with h | h
    ·exact hs.S_src β h
    ·exact .inr (by omega)
   ·refine hs.below.trans ⟨hbel.os, hbel.tape, hbel.output, hbel.size, hbel.drawn, fun k hk hnl => hbel.block k (by omega) fun hL => ?_⟩
    obtain ⟨j, hj, hg⟩ := hnotL k hL
    rcases (hs.at_ok _ _ k (hlk j hj).1 (hlk j hj).2 hg).1.2 with h | h
    ·omega
    ·exact hnl h
  refine hK _ _ ⟨G2, key.put (some s) (some (res.ren (nu ls ns))) v (by intro t e; cases e; exact hn) ?_⟩
  rintro d ⟨⟩
  refine ⟨hres'.ren hvia (hren _ hnmR), fun b hb => ?_⟩
  obtain ⟨b0, h1, h2⟩ := Is hb
  rw [h2]
  exact hdom b0 (hren _ hnmR b0 h1)
theorem Fd {f s : Nat} {xs : List Operand} {ds0 ds : List D} {lent : List (Bl × Bl)} {rv : List Bl} {res : D} {ts : Array TypeId} (ls ns : List Nat) (ch : List Bool) (hc : Do P f ds lent rv res) (hat : At st.env ops i X.n (.call ⟨.value (.func f), xs.toArray, ts⟩) s gs)
  (hf : Az P f = true) (hl : xs.length = ds0.length) (hx : DP st.env (F0 xs ds0)) (hds : ds0.map D.nrm = ds.map (D.ren (nu ls ns)))
  (hll : ls.length = lent.length) (hln : ls.Nodup) (hlb : F9 st.bx (LV (nu ls ns) ls lent)) (hns : ns.length = rv.length) (hndl : Ih ns) (hnew : J6 st.bx ns) (hch : PC lent ch)
  (hlim : (zB7 lent.length 1000 && zB7 rv.length 1000) = true) (hre : (lent.all fun x => x.1.real && x.2.real) = true)
  (hnm : (Gb lent.length rv.length res.names && (lent.all fun x => Gb lent.length rv.length x.2.names) && rv.all fun x => Gb lent.length rv.length x.names) = true)
  (next : A4 P X ops dr Q r (i + 1) (BZ.upd ⟨gs ++ F0 xs ds0, LV (nu ls ns) ls lent, some s, some (res.ren (nu ls ns)), G7 (nu ls ns) ls lent ch (newB (nu ls ns) ns rv), ns⟩ st) ((i, ⟨gs ++ F0 xs ds0, LV (nu ls ns) ls lent, some s, some (res.ren (nu ls ns)), G7 (nu ls ns) ls lent ch (newB (nu ls ns) ns rv), ns⟩) :: log)) : A4 P X ops dr Q (r + 1) i st log := by
 obtain ⟨o, ho, hop, hd, hn, hg, hgp⟩ := hat.out
 exact A4.step next ⟨Ak.2 ⟨hgp, hx⟩, hlb, hnew⟩ (QY ls ns ch hc hat hf hl hds hll hln hns hndl hch hlim hre hnm)
end run
end Go.Lift
namespace Go.Lift
open Go.RowKit
variable {P : Program} {X : Gg} {ops : Array Oper}
def Ns {α : Type} (xs : List α) (q : Nat) (ys : List α) : List α := xs.take q ++ ys ++ xs.drop (q + ys.length)
theorem Lr {α : Type} {xs ys : List α} {q : Nat} (h : q + ys.length ≤ xs.length) : (Ns xs q ys).length = xs.length := by
 unfold Ns; simp; omega
theorem PU {α : Type} {xs ys : List α} {q : Nat} (h : q + ys.length ≤ xs.length) (i : Nat) : (Ns xs q ys)[i]? = if q ≤ i ∧ i < q + ys.length then ys[i - q]? else xs[i]? := by
 unfold Ns
 by_cases h1 : i < q
 ·rw [if_neg (by omega), List.append_assoc, zA0 (by simp; omega), vK h1]
 ·by_cases h2 : i < q + ys.length
  ·rw [if_pos (by omega), zA0 (by simp; omega), vX (by simp; omega)]
   congr 1; simp; omega
  ·rw [if_neg (by omega), vX (by simp; omega), zA9]
   congr 1; simp; omega
theorem SH {α β : Type} (f : α → β) (xs ys : List α) (q : Nat) : Ns (xs.map f) q (ys.map f) = (Ns xs q ys).map f := by
 unfold Ns; simp
inductive Mo : D → Nat → Nat → List (List T) → Nat → Nat → Prop where
 | own (b e : Nat) (rows : List (List T)) : Mo (.e (.one (.own b))) b e rows 0 rows.length
 | view (b e : Nat) (rows : List (List T)) (lo len : Nat) (h : lo + len ≤ rows.length) : Mo (.e (.one (.view b e lo len))) b e rows lo len
inductive N0 : D → List (Nat × Bl) → Nat → List (List T) → Prop where
 | of {d : D} {rb : List (Nat × Bl)} {e : Nat} {rows : List (List T)} (h : T4 d rb e rows) : N0 d rb e rows
 | view (b e : Nat) (rows : List (List T)) (lo len : Nat) (h : lo + len ≤ rows.length) : N0 (.e (.one (.view b e lo len))) [(b, .vec e rows)] e ((rows.drop lo).take len)
theorem Qv (q : Addr) : q.add 0 = q := by unfold Addr.add; simp
theorem Ph {G : Gh} {w : World} {b e : Nat} {rows : List (List T)} (h : D0 P w G b (.vec e rows)) : ∃ a cap, G.hd b = .slice a rows.length cap ∧ rows.length ≤ cap ∧
  (0 < cap → ∃ β arr el, a = some ⟨β, 0, none⟩ ∧ G.loc b = some β ∧ w.heap[β]? = some (.cells arr el (0, 0)) ∧ arr.size = cap * e ∧ Dy w G.S arr e 0 rows) := by
 rcases h with ⟨a, h1, h2, _⟩ | ⟨β, cap, arr, el, h0, h1, h2, h3, h4, h5, h6⟩
 ·subst h2; exact ⟨a, 0, h1, zC1 _, fun h => by cases h⟩
 ·exact ⟨_, cap, h1, h3, fun _ => ⟨β, arr, el, rfl, h0, h2, h4, by rw [h4, uZ]; exact uV e h3, h5, fun i row j t hi hj => by rw [uZ]; exact h6 i row j t hi hj⟩⟩
section run
variable {dr : Bool} {Q : St → Prop} {r i : Nat} {st : St} {log : List (Nat × BZ)} {o : Oper} {gs : List (Operand × D)}
theorem Cu.dstV {G : Gh} {a : Act} {w : World} (hs : Cu P X G st a w) {x : Operand} {d : D} {b e lo len : Nat} {rows : List (List T)} (hx : Lift.opd st.env x = some d) (h : Mo d b e rows lo len) (hb : st.bx b = some (.vec e rows)) :
  ∃ p cap', a.eval x = .slice p len cap' ∧ rows.length - lo ≤ cap' ∧ lo + len ≤ rows.length ∧
   (lo < rows.length → ∃ β cap arr el, G.loc b = some β ∧ G.hd b = .slice (some ⟨β, 0, none⟩) rows.length cap ∧ rows.length ≤ cap ∧ p = some ⟨β, lo * e, none⟩ ∧ w.heap[β]? = some (.cells arr el (0, 0)) ∧ arr.size = cap * e ∧ Dy w G.S arr e 0 rows) := by
 obtain ⟨a0, cap, h1, h2, h3⟩ := Ph (hs.blk b _ hb)
 have hR := hs.opd hx
 cases h with
 | own =>
  obtain ⟨hR, _⟩ : DM P w G (a.eval x) (.own b) := hR
  refine ⟨a0, cap, hR.trans h1, by omega, by omega, fun hlt => ?_⟩
  obtain ⟨β, arr, el, g1, g2, g3, g4, g5⟩ := h3 (by omega)
  subst g1
  exact ⟨β, cap, arr, el, g2, h1, h2, by simp, g3, g4, g5⟩
 | view _ _ _ _ _ h =>
  obtain ⟨a1, n1, cap1, p, k1, k2, k3, k4⟩ : DM P w G (a.eval x) (.view b e lo len) := hR
  rw [h1] at k1
  cases k1
  refine ⟨p, cap - lo, k3, by omega, h, fun hlt => ?_⟩
  obtain ⟨β, arr, el, g1, g2, g3, g4, g5⟩ := h3 (by omega)
  subst g1
  refine ⟨β, cap, arr, el, g2, h1, h2, ?_, g3, g4, g5⟩
  rw [k4 (by omega)]
  simp [Addr.add_mk]
theorem Cu.srcW {G : Gh} {a : Act} {w : World} (hs : Cu P X G st a w) {x : Operand} {d : D} {rb : List (Nat × Bl)} {e : Nat} {rows : List (List T)} (hx : Lift.opd st.env x = some d) (h : N0 d rb e rows) (hb : F9 st.bx rb) :
  ∃ p cap, a.eval x = .slice p rows.length cap ∧ (rows = [] ∨ ∃ β off arr el fz, p = some ⟨β, off, none⟩ ∧ w.heap[β]? = some (.cells arr el fz) ∧ Dy w G.S arr e off rows) := by
 cases h with
 | of h =>
  have hR := hs.opd hx
  cases h with
  | own b e rows =>
   obtain ⟨hR, _⟩ : DM P w G (a.eval x) (.own b) := hR
   obtain ⟨a0, cap, h1, h2, h3⟩ := Ph (hs.blk b _ hb.1)
   refine ⟨a0, cap, hR.trans h1, ?_⟩
   cases rows with
   | nil => exact .inl rfl
   | cons y ys =>
    obtain ⟨β, arr, el, g1, g2, g3, g4, g5⟩ := h3 (by simp at h2; omega)
    exact .inr ⟨β, 0, arr, el, (0, 0), g1, g3, g5⟩
  | sl e rows hrow =>
   have hR : Cj w G.S (a.eval x) (.sl rows) := hR
   generalize a.eval x = v at hR
   cases hR with
   | nil a' cap => exact ⟨_, _, rfl, .inl rfl⟩
   | sl β off cap e' arr el' fz rows h1 h2 h3 h4 h5 h6 =>
    refine ⟨_, _, rfl, ?_⟩
    cases rows with
    | nil => exact .inl rfl
    | cons r0 rs =>
     have he : e' = e := by rw [← hrow 0 r0 rfl]; exact (h5 0 r0 rfl).symm
     subst he
     exact .inr ⟨β, off, arr, el', fz, rfl, h2, h4, h5, h6⟩
  | nil e =>
   have hR : Cj w G.S (a.eval x) .nil0 := hR
   generalize a.eval x = v at hR
   cases hR with
   | nil0 a' => exact ⟨_, _, rfl, .inl rfl⟩
 | view b _ rows lo len h =>
  obtain ⟨p, cap', h1, h2, h3, h4⟩ := hs.dstV hx (.view b e rows lo len h) hb.1
  have hlen : ((rows.drop lo).take len).length = len := by simp; omega
  refine ⟨p, cap', by rw [hlen]; exact h1, ?_⟩
  by_cases hz : len = 0
  ·exact .inl (by rw [hz, List.take_zero])
  ·obtain ⟨β, cap, arr, el, g1, g2, g3, g4, g5, g6, g7⟩ := h4 (by omega)
   refine .inr ⟨β, lo * e, arr, el, (0, 0), g4, g5, ?_, ?_, ?_⟩
   ·rw [hlen, g6, ← zA6]; exact uV e (by omega)
   ·intro i row hi
    have := AC hi
    rw [hlen] at this
    rw [vK this, zA9] at hi
    exact g7.2.1 _ row hi
   ·intro i row j t hi hj
    have := AC hi
    rw [hlen] at this
    rw [vK this, zA9] at hi
    have := g7.2.2 _ row j t hi hj
    rwa [uZ, zA6] at this
theorem Dy.take {w : World} {S : Nat → Prop} {arr : Array Value} {e off n : Nat} {rows : List (List T)} (h : Dy w S arr e off rows) : Dy w S arr e off (rows.take n) := by
 refine ⟨?_, ?_, ?_⟩
 ·have := h.1
  have h2 : (rows.take n).length * e ≤ rows.length * e := uV e (by simp; omega)
  omega
 ·intro i row hi
  have := AC hi
  simp at this
  rw [vK (by omega)] at hi
  exact h.2.1 i row hi
 ·intro i row j t hi hj
  have := AC hi
  simp at this
  rw [vK (by omega)] at hi
  exact h.2.2 i row j t hi hj
theorem M9 {w : World} {S : Nat → Prop} {p : Option Addr} {len cap e n : Nat} {rows : List (List T)} (hn : n ≤ rows.length) (h : rows = [] ∨ ∃ β off arr el fz, p = some ⟨β, off, none⟩ ∧ w.heap[β]? = some (.cells arr el fz) ∧ Dy w S arr e off rows) :
  ∃ news, (Builtin.firstCells e n (.slice p len cap)).run P w = .ok news w ∧ Dy w S news e 0 (rows.take n) ∧ news.size = n * e := by
 rcases h with h | ⟨β, off, arr, el, fz, h1, h2, h3⟩
 ·subst h
  have : n = 0 := by simpa using hn
  subst this
  obtain ⟨news, k1, k2, k3⟩ := Eo (P := P) (w := w) (a := p) (len := len) (cap := cap) (e := e) (S := S)
  exact ⟨news, k1 w rfl, by simpa using k2, by simpa using k3⟩
 ·subst h1
  have hl : (rows.take n).length = n := by simp; omega
  obtain ⟨news, k1, k2, k3⟩ := FA (P := P) (len := len) (cap := cap) h2 (h3.take (n := n))
  rw [hl] at k1 k3
  exact ⟨news, k1 w rfl, k2, k3⟩
theorem Rx {G : Gh} {w : World} {b e β cap q : Nat} {rows rows2 : List (List T)} {arr news : Array Value} {el : TypeId} (hlt : β < w.heap.size) (hnS : ¬ G.S β) (h0 : G.loc b = some β) (h1 : G.hd b = .slice (some ⟨β, 0, none⟩) rows.length cap) (h3 : rows.length ≤ cap) (h4 : arr.size = cap * e) (h5 : Dy w G.S arr e 0 rows)
  (hn : Dy w G.S news e 0 rows2) (hns : news.size = rows2.length * e) (hq : q + rows2.length ≤ rows.length) :
  D0 P (Fs w β (.cells (EH arr (q * e) news.toList) el (0, 0))) G b (.vec e (Ns rows q rows2)) := by
 have hle : q * e + rows2.length * e ≤ cap * e := by rw [← zA6]; exact uV e (by omega)
 have hS : ∀ γ, G.S γ → (Fs w β (.cells (EH arr (q * e) news.toList) el (0, 0))).heap[γ]? = w.heap[γ]? := fun γ hγ => by
  rw [DG, if_neg (fun (h : γ = β ∧ β < w.heap.size) => hnS (h.1 ▸ hγ))]
 have hrl : ∀ (i : Nat) (row : List T), (Ns rows q rows2)[i]? = some row → row.length = e := by
  intro i row hi
  rw [PU hq] at hi
  split at hi
  ·exact hn.2.1 _ row hi
  ·exact h5.2.1 _ row hi
 refine .inr ⟨β, cap, EH arr (q * e) news.toList, el, h0, by rw [Lr hq]; exact h1, by rw [DG, if_pos ⟨rfl, hlt⟩], by rw [Lr hq]; exact h3, by rw [FW, h4], hrl, ?_⟩
 intro i row j t hi hj
 have hj' := AC hj
 have hre := hrl i row hi
 rw [PU hq] at hi
 rw [EJ _ _ _ _ (by simp; omega)]
 simp only [zC8, hns]
 split at hi
 ·rename_i hin
  have hle2 : (i - q) * e + e ≤ rows2.length * e := by rw [← zA1]; exact uV e (by omega)
  have hsp : i * e = q * e + (i - q) * e := by rw [← zA6]; congr 1; omega
  rw [if_pos (by omega)]
  have := hn.2.2 _ row j t hi hj
  rw [uZ] at this
  have h6 : (news.toList[i * e + j - q * e]?).getD undef = Au news ((i - q) * e + j) := by
   rw [show i * e + j - q * e = (i - q) * e + j from by omega]
   unfold Au; simp
  rw [h6]
  exact this.mono hS fun _ h => h
 ·rename_i hin
  rw [if_neg]
  ·have := h5.2.2 _ row j t hi hj
   rw [uZ] at this
   exact this.mono hS fun _ h => h
  ·rintro ⟨k1, k2⟩
   by_cases hiq : i < q
   ·have : i * e + e ≤ q * e := by rw [← zA1]; exact uV e hiq
    omega
   ·have : q * e + rows2.length * e ≤ i * e := by rw [← zA6]; exact uV e (by omega)
    omega
theorem RI {x : Operand} {t el s e l h b lo0 len : Nat} {lo hi : Option Operand} {rl rh : List (Operand × D)} {rows : List (List T)} {d : D} (hat : At st.env ops i X.n (.slice t x lo hi none) s gs)
  (hx : opd st.env x = some d) (hD : Mo d b e rows lo0 len) (hb : st.bx b = some (.vec e rows)) (ht : sliceB P t el = true) (he : F5 P el e = true) (hlo : OW lo 0 l rl) (hhi : OW hi len h rh) (h1 : DP st.env rl) (h2 : DP st.env rh) (hlh : l ≤ h) (hhl : lo0 + h ≤ rows.length)
  (next : A4 P X ops dr Q r (i + 1) (BZ.upd ⟨gs ++ ((x, d) :: (rl ++ rh)), [(b, .vec e rows)], some s, some (.e (.one (.view b e (lo0 + l) (h - l)))), [], []⟩ st) ((i, ⟨gs ++ ((x, d) :: (rl ++ rh)), [(b, .vec e rows)], some s, some (.e (.one (.view b e (lo0 + l) (h - l)))), [], []⟩) :: log)) : A4 P X ops dr Q (r + 1) i st log := by
 obtain ⟨o, ho, hop, hd, hn, hg, hgp⟩ := hat.out
 refine A4.step next ⟨Ak.2 ⟨hgp, hx, Ak.2 ⟨h1, h2⟩⟩, ⟨hb, trivial⟩, trivial⟩ (LR.value ho hg rfl hd.symm (CS hd hn) ?_)
 intro G st a w hs hpre
 obtain ⟨hx, h12⟩ := (Ak.1 hpre.r).2
 obtain ⟨h1, h2⟩ := Ak.1 h12
 have hb := hpre.b.1
 -- the header of the whole
 obtain ⟨a0, cap, k1, k2, k3⟩ := Ph (hs.blk b _ hb)
 have hv : ∃ p, a.eval x = .slice p len (cap - lo0) ∧ lo0 + len ≤ rows.length ∧ (lo0 < cap → p = a0.map fun q => q.add (lo0 * e)) := by
  have hR := hs.opd hx
  cases hD with
  | own =>
   obtain ⟨hR, _⟩ : DM P w G (a.eval x) (.own b) := hR
   exact ⟨a0, hR.trans k1, by omega, fun _ => by cases a0 <;> simp [Qv]⟩
  | view _ _ _ _ _ h' =>
   obtain ⟨a1, n1, cap1, p, g1, g2, g3, g4⟩ : DM P w G (a.eval x) (.view b e lo0 len) := hR
   rw [k1] at g1; cases g1
   exact ⟨p, g3, h', g4⟩
 obtain ⟨p, hv1, hv2, hv3⟩ := hv
 refine ⟨.slice (if cap - lo0 = l then p else p.map (·.add (l * e))) (h - l) (cap - lo0 - l), w, G, ?_, hs, ?_⟩
 ·simp only [execOp, hop]
  refine Ag (a := .slice (if cap - lo0 = l then p else p.map (·.add (l * e))) (h - l) (cap - lo0 - l)) (w1 := w) ?_ rfl
  rw [hv1]
  exact IG (a := a) hs ht he hlo hhi h1 h2 hlh (by omega)
 ·rintro d' ⟨⟩
  refine ⟨⟨a0, rows.length, cap, _, k1, by omega, by rw [show cap - lo0 - l = cap - (lo0 + l) from by omega], fun hlt => ?_⟩, fun b' hb' => ?_⟩
  ·rw [if_neg (by omega), hv3 (by omega)]
   obtain ⟨β, arr, el', g1, _⟩ := k3 (by omega)
   subst g1
   simp only [zB0, Addr.add_mk, zA6, uZ]
  ·simp [D.names, E.names, C.names] at hb'
   subst hb'
   simp [Bx, hb]
theorem Rr {t t2 el e : Nat} {w : World} {p p2 : Option Addr} {dl dc n2 c2 : Nat} {news : Array Value} {ty : TypeId} (ht : sliceB P t el = true) (he : F5 P el e = true) (hnew : (Builtin.firstCells e (zA3 n2 dl) (.slice p2 n2 c2)).run P w = .ok news w) {w' : World}
  (hst : ∀ q, p = some q → (storeCells q news.toList).run P w = .ok () w') (hno : p = none → w' = w) : (Builtin.copy_ #[t, t2] ty #[.slice p dl dc, .slice p2 n2 c2]).run P w = .ok (goInt (zA3 n2 dl)) w' := by
 unfold sliceB at ht
 split at ht
 ·rename_i e' hu
  have : e' = el := by simpa using ht
  subst this
  unfold Builtin.copy_
  refine Ag (AD hu w) ?_
  refine Ag (a := n2) (w1 := w) rfl ?_
  refine Ag (DL he w) ?_
  refine Ag hnew ?_
  cases p with
  | none => rw [hno rfl]; rfl
  | some q => exact Ag (hst q rfl) rfl
 ·cases ht
theorem T8 {x y : Operand} {t t2 el s e b lo len : Nat} {d d2 : D} {rb2 : List (Nat × Bl)} {rows rows2 rows' : List (List T)} (hat : At st.env ops i X.n (.call ⟨.builtin .copy, #[x, y], #[t, t2]⟩) s gs)
  (hx : opd st.env x = some d) (hD : Mo d b e rows lo len) (hb : st.bx b = some (.vec e rows)) (hy : opd st.env y = some d2) (hS : N0 d2 rb2 e rows2) (hb2 : F9 st.bx rb2) (ht : sliceB P t el = true) (he : F5 P el e = true) (hr : Ns rows lo (rows2.take (zA3 rows2.length len)) = rows')
  (next : A4 P X ops dr Q r (i + 1) (BZ.upd ⟨gs ++ [(x, d), (y, d2)], (b, .vec e rows) :: rb2, some s, some (vD (goInt (zA3 rows2.length len))), [(b, .vec e rows')], []⟩ st) ((i, ⟨gs ++ [(x, d), (y, d2)], (b, .vec e rows) :: rb2, some s, some (vD (goInt (zA3 rows2.length len))), [(b, .vec e rows')], []⟩) :: log)) : A4 P X ops dr Q (r + 1) i st log := by
 obtain ⟨o, ho, hop, hd, hn, hg, hgp⟩ := hat.out
 refine A4.step next ⟨Ak.2 ⟨hgp, hx, hy, trivial⟩, ⟨hb, hb2⟩, trivial⟩ (LR.value ho hg rfl hd.symm (CS hd hn) ?_)
 intro G st a w hs hpre
 obtain ⟨hx, hy, _⟩ := (Ak.1 hpre.r).2
 obtain ⟨hb, hb2⟩ := hpre.b
 subst hr
 obtain ⟨p, cap', h1, h2, h3, h4⟩ := hs.dstV hx hD hb
 obtain ⟨p2, cap2, k1, k2⟩ := hs.srcW hy hS hb2
 have hmin : zA3 rows2.length len ≤ rows2.length := Nat.min_le_left _ _
 have hmin2 : zA3 rows2.length len ≤ len := Nat.min_le_right _ _
 obtain ⟨news, n1, n2, n3⟩ := M9 (P := P) (len := rows2.length) (cap := cap2) hmin k2
 have hl2 : (rows2.take (zA3 rows2.length len)).length = zA3 rows2.length len := by rw [List.length_take]; exact Nat.min_eq_left hmin
 have hrun : ∀ w', (∀ q, p = some q → (storeCells q news.toList).run P w = .ok () w') → (p = none → w' = w) → (execOp a.eval o).run P w = .ok (.value (goInt (zA3 rows2.length len))) w' := fun w' g1 g2 => by
  simp only [execOp, hop]
  refine Gm fun cs => ?_
  simp only [zD5, vT, zE6, builtin, h1, k1]
  exact Ag (Rr ht he n1 g1 g2) rfl
 have fin : ∀ d', some (vD (goInt (zA3 rows2.length len))) = some d' → ∀ w' (G' : Gh), Fw P w' G' (goInt (zA3 rows2.length len)) d' ∧ ∀ c, c ∈ d'.names → (Bx st.bx [(b, .vec e (Ns rows lo (rows2.take (zA3 rows2.length len))))] c).isSome = true := fun d' hd' w' G' => by
  cases hd'; exact ⟨.val _ rfl, fun c hc => by cases hc⟩
 by_cases hlt : lo < rows.length
 ·obtain ⟨β, cap, arr, el', g1, g2, g3, g4, g5, g6, g7⟩ := h4 hlt
  subst g4
  have hat := hs.at_ok b _ β hb rfl (.inl g1)
  have hle : lo * e + zA3 rows2.length len * e ≤ arr.size := by rw [g6, ← zA6]; exact uV e (by omega)
  have hst := FQ (P := P) (β := β) (el := el') news.toList w (lo * e) 0 arr g5 (by simp [n3]; omega) (Dy.ones n2 (by rw [n3, hl2]))
  rw [Nat.add_zero] at hst
  refine ⟨_, _, G, hrun _ (fun q hq => by cases hq; exact hst) (fun h => by cases h), ?_, fun d' hd' => fin d' hd' _ _⟩
  exact hs.setB (b := b) (k0 := .vec e rows) hb rfl rfl (.inl g1) (Rx hat.2.1 hat.2.2 g1 g2 g3 g6 g7 n2 (by rw [n3, hl2]) (by rw [hl2]; omega)) (fun c hc => by cases hc)
 ·have hz : zA3 rows2.length len = 0 := by omega
  have hn0 : news.toList = [] := zA8 (by simp [n3, hz])
  have hsp : Ns rows lo (rows2.take (zA3 rows2.length len)) = rows := by
   have : lo = rows.length := by omega
   rw [hz]; unfold Ns; simp [this]
  refine ⟨_, w, G, hrun w (fun q _ => by rw [hn0]; rfl) (fun _ => rfl), ?_, fun d' hd' => fin d' hd' _ _⟩
  have : (⟨st.env, Bx st.bx [(b, .vec e (Ns rows lo (rows2.take (zA3 rows2.length len))))]⟩ : St) = st := by
   refine St.ext (fun _ => rfl) fun c => ?_
   simp only [Bx]
   split
   ·rename_i e1; rw [e1, hsp, hb]
   ·rfl
  rw [this]; exact hs
end run
end Go.Lift
namespace Go.Lift
open Go.RowKit
variable {P : Program} {X : Gg} {ops : Array Oper}
def RE (a b : Int) : Int := if b < a then b else a
def Sj (b : ByteArray) (i : Int) : Option Int := if 0 ≤ i then (b[i.toNat]?).map fun x => (x.toNat : Int) else none
theorem Qh {β : Type} {b : ByteArray} {i : Int} {f : Int → Option β} {r : β} (h : (Sj b i).bind f = some r) : ∃ x : UInt8, 0 ≤ i ∧ b[i.toNat]? = some x ∧ f (x.toNat : Int) = some r := by
 obtain ⟨x, h1, h2⟩ := bind_some h
 unfold Sj at h1
 split at h1
 ·rename_i h0
  cases hx : b[i.toNat]? with
  | none => rw [hx] at h1; cases h1
  | some y => rw [hx] at h1; cases h1; exact ⟨y, h0, rfl, h2⟩
 ·cases h1
section run
variable {dr : Bool} {Q : St → Prop} {r i : Nat} {st : St} {log : List (Nat × BZ)} {o : Oper} {gs : List (Operand × D)}
theorem Vw {x y : Operand} {t t2 s : Nat} {k k2 : IntKind} {a0 b0 : Int} (hat : At st.env ops i X.n (.call ⟨.builtin .min, #[x, y], #[t, t2]⟩) s gs)
  (hx : opd st.env x = some (vD (.int k a0))) (hy : opd st.env y = some (vD (.int k2 b0)))
  (next : A4 P X ops dr Q r (i + 1) (BZ.upd ⟨gs ++ [(x, vD (.int k a0)), (y, vD (.int k2 b0))], [], some s, some (vD (.int k (RE a0 b0))), [], []⟩ st) ((i, ⟨gs ++ [(x, vD (.int k a0)), (y, vD (.int k2 b0))], [], some s, some (vD (.int k (RE a0 b0))), [], []⟩) :: log)) : A4 P X ops dr Q (r + 1) i st log := by
 obtain ⟨o, ho, hop, hd, hn, hg, hgp⟩ := hat.out
 refine A4.step next ⟨Ak.2 ⟨hgp, hx, hy, trivial⟩, trivial, trivial⟩ (LR.value ho hg rfl hd.symm (CS hd hn) ?_)
 intro G st a w hs hpre
 obtain ⟨hx, hy, _⟩ := (Ak.1 hpre.r).2
 have h1 : a.eval x = .int k a0 := CN (hs.opd hx : Cj w G.S (a.eval x) (.val _))
 have h2 : a.eval y = .int k2 b0 := CN (hs.opd hy : Cj w G.S (a.eval y) (.val _))
 refine ⟨.int k (RE a0 b0), w, G, ?_, hs, ?_⟩
 ·simp only [execOp, hop]
  refine Gm fun cs => ?_
  simp only [zD5, vT, zE6, builtin, h1, h2]
  rfl
 ·rintro d ⟨⟩
  exact ⟨.val _ rfl, fun b hb => by cases hb⟩
theorem O3 {x : Operand} {s b k : Nat} (hat : At st.env ops i X.n (.nilCheck x) s gs) (hx : opd st.env x = some (.e (.one (.ptr b k))))
  (next : A4 P X ops dr Q r (i + 1) (BZ.upd ⟨gs ++ [(x, .e (.one (.ptr b k)))], [], some s, some (.e (.one (.ptr b k))), [], []⟩ st) ((i, ⟨gs ++ [(x, .e (.one (.ptr b k)))], [], some s, some (.e (.one (.ptr b k))), [], []⟩) :: log)) : A4 P X ops dr Q (r + 1) i st log := by
 obtain ⟨o, ho, hop, hd, hn, hg, hgp⟩ := hat.out
 refine A4.step next ⟨Ak.2 ⟨hgp, hx, trivial⟩, trivial, trivial⟩ (LR.value ho hg rfl hd.symm (CS hd hn) ?_)
 intro G st a w hs hpre
 obtain ⟨hx, _⟩ := (Ak.1 hpre.r).2
 obtain ⟨β, hβ, hv⟩ : DM P w G (a.eval x) (.ptr b k) := hs.opd hx
 refine ⟨.pointer (some ⟨β, k, none⟩), w, G, ?_, hs, ?_⟩
 ·simp only [execOp, hop, hv]; rfl
 ·rintro d ⟨⟩
  exact ⟨⟨β, hβ, rfl⟩, fun b' hb' => hs.opd_live hx b' hb'⟩
def Kp (P : Program) (t : TypeId) : Bool := match P.underlying t with | some .string => true | _ => false
theorem QV {x y : Operand} {t s : Nat} {b : ByteArray} {k : IntKind} {n : Int} {c : UInt8} (hat : At st.env ops i X.n (.index t x y) s gs)
  (hx : opd st.env x = some (vD (.string b))) (hy : opd st.env y = some (vD (.int k n))) (ht : Kp P t = true) (h0 : 0 ≤ n) (hc : b[n.toNat]? = some c)
  (next : A4 P X ops dr Q r (i + 1) (BZ.upd ⟨gs ++ [(x, vD (.string b)), (y, vD (.int k n))], [], some s, some (vD (.int .u8 (c.toNat : Int))), [], []⟩ st) ((i, ⟨gs ++ [(x, vD (.string b)), (y, vD (.int k n))], [], some s, some (vD (.int .u8 (c.toNat : Int))), [], []⟩) :: log)) : A4 P X ops dr Q (r + 1) i st log := by
 obtain ⟨o, ho, hop, hd, hn, hg, hgp⟩ := hat.out
 refine A4.step next ⟨Ak.2 ⟨hgp, hx, hy, trivial⟩, trivial, trivial⟩ (LR.value ho hg rfl hd.symm (CS hd hn) ?_)
 intro G st a w hs hpre
 obtain ⟨hx, hy, _⟩ := (Ak.1 hpre.r).2
 have h1 : a.eval x = .string b := CN (hs.opd hx : Cj w G.S (a.eval x) (.val _))
 have h2 : a.eval y = .int k n := CN (hs.opd hy : Cj w G.S (a.eval y) (.val _))
 refine ⟨.int .u8 (c.toNat : Int), w, G, ?_, hs, ?_⟩
 ·simp only [execOp, hop, h1, h2]
  refine Ag (a := .int .u8 (c.toNat : Int)) (w1 := w) ?_ rfl
  unfold Kp at ht
  split at ht
  ·rename_i hu
   unfold Instr.index
   refine Ag (a := (k, n)) (w1 := w) rfl ?_
   refine Ag (AD hu w) ?_
   simp only [h0, if_true, hc]
   rfl
  ·cases ht
 ·rintro d ⟨⟩
  exact ⟨.val _ rfl, fun b hb => by cases hb⟩
end run
section maps
variable {K V : Type}
def Ic [BEq K] (k : K) : List (K × V) → Option V
 | [] => none
 | p :: r => if k == p.1 then some p.2 else Ic k r
def KO [BEq K] (k : K) (v : V) : List (K × V) → List (K × V)
 | [] => [(k, v)]
 | p :: r => if k == p.1 then (k, v) :: r else p :: KO k v r
def DN (kv : K → Value) (vt : V → T) (m : List (K × V)) : List (Value × T) := m.map fun p => (kv p.1, vt p.2)
end maps
structure OI {K : Type} [BEq K] (P : Program) (t : TypeId) (kv : K → Value) : Prop where
 ty : ∃ kt el kd, P.underlying t = some (.map kt el) ∧ P.underlying kt = some kd ∧ (∀ a b : K, Instr.sameNow kd (kv a) (kv b) = some (a == b)) ∧ (∀ (e : Bool) (n : Nat) (v : K) (w : World), (Instr.checkKey e (n + 1) kt (kv v)).run P w = .ok () w)
 same : ∀ a b : K, (a == b) = true → Instr.sameBits 10000 (kv b) (kv a) = true
theorem Ir {K V : Type} [BEq K] {kd : TypeDesc} {kv : K → Value} (h : ∀ a b : K, Instr.sameNow kd (kv a) (kv b) = some (a == b)) (k : K) : ∀ (m : List (K × V)) (es : List MapEntry) (i : Nat), es.length = m.length → (∀ (j : Nat) (p : K × V), m[j]? = some p → ∃ e : MapEntry, es[j]? = some e ∧ e.key = kv p.1) →
  (Ic k m = none ∧ Instr.findNow kd (kv k) es i = some none) ∨ ∃ j p e, m[j]? = some p ∧ es[j]? = some e ∧ (k == p.1) = true ∧ Ic k m = some p.2 ∧ Instr.findNow kd (kv k) es i = some (some (i + j, e.val)) ∧ (∀ v, KO k v m = m.set j (k, v))
 | [], [], i, _, _ => .inl ⟨rfl, rfl⟩
 | p :: m, e :: es, i, hl, hp => by
  obtain ⟨e0, h0, h1⟩ := hp 0 p rfl
  simp at h0; subst h0
  have h2 := h k p.1
  by_cases hk : (k == p.1) = true
  ·refine .inr ⟨0, p, e, rfl, rfl, hk, ?_, ?_, fun v => ?_⟩
   ·simp only [Ic, hk, if_true]
   ·simp only [Instr.findNow, h1, h2, hk]; rfl
   ·simp only [KO, hk, if_true]; rfl
  ·have hk' : (k == p.1) = false := by simpa using hk
   rcases Ir h k m es (i + 1) (by simpa using hl) (fun j q hq => hp (j + 1) q (by simpa using hq)) with ⟨g1, g2⟩ | ⟨j, q, e', g1, g2, g3, g4, g5, g6⟩
   ·refine .inl ⟨?_, ?_⟩
    ·simp only [Ic, hk']; exact g1
    ·simp only [Instr.findNow, h1, h2, hk']; exact g2
   ·refine .inr ⟨j + 1, q, e', by simpa using g1, by simpa using g2, g3, ?_, ?_, fun v => ?_⟩
    ·simp only [Ic, hk']; exact g4
    ·simp only [Instr.findNow, h1, h2, hk']; rw [g5]; simp [zC0, Nat.add_comm 1]
    ·simp only [KO, hk']; rw [g6 v]; rfl
theorem Km {K V : Type} [BEq K] (k : K) (v : V) : ∀ {m : List (K × V)}, Ic k m = none → KO k v m = m ++ [(k, v)]
 | [], _ => rfl
 | p :: m, h => by
  simp only [Ic] at h
  split at h
  ·cases h
  ·rename_i hk
   simp only [KO]; rw [if_neg hk, Km k v h]; rfl
section run
variable {dr : Bool} {Q : St → Prop} {r i : Nat} {st : St} {log : List (Nat × BZ)} {o : Oper} {gs : List (Operand × D)}
theorem QH {t s : Nat} (hat : At st.env ops i X.n (.makeMap t none) s gs) (hnew : st.bx s = none)
  (next : A4 P X ops dr Q r (i + 1) (BZ.upd ⟨gs, [], some s, some (.e (.one (.mref s))), [(s, .mp [])], [s]⟩ st) ((i, ⟨gs, [], some s, some (.e (.one (.mref s))), [(s, .mp [])], [s]⟩) :: log)) : A4 P X ops dr Q (r + 1) i st log := by
 obtain ⟨o, ho, hop, hd, hn, hg, hgp⟩ := hat.out
 refine A4.step next ⟨hgp, trivial, hnew, trivial⟩ (LR.value (rs := []) ho hg (by simp) hd.symm (CS hd hn) ?_)
 intro G st a w hs hpre
 have hnew := hpre.n.1
 have key := hs.newB (.map #[] 0) s (.mp []) undef (hs.nl hn) hnew
  ⟨w.heap.size, #[], 0, by simp [Gh.set], by rw [Dw, if_pos rfl], rfl, fun i x h => by simp at h⟩ (fun c hc => by cases hc)
 refine ⟨.map (some w.heap.size), _, _, ?_, key, ?_⟩
 ·simp only [execOp, hop]
  exact Ag (a := .map (some w.heap.size)) (w1 := w.alloc (.map #[] 0)) rfl rfl
 ·rintro d ⟨⟩
  refine ⟨⟨w.heap.size, by simp [Gh.set], rfl⟩, fun b hb => ?_⟩
  simp [D.names, E.names, C.names] at hb
  subst hb; simp [Bx]
theorem Cu.mpAt {G : Gh} {a : Act} {w : World} (hs : Cu P X G st a w) {x : Operand} {b : Nat} {es : List (Value × T)} (hx : Lift.opd st.env x = some (.e (.one (.mref b)))) (hb : st.bx b = some (.mp es)) :
  ∃ β arr clock, a.eval x = .map (some β) ∧ G.loc b = some β ∧ w.heap[β]? = some (.map arr clock) ∧ arr.size = es.length ∧ ∀ (i : Nat) (y : Value × T), es[i]? = some y → ∃ m : MapEntry, arr[i]? = some m ∧ m.key = y.1 ∧ Cj w G.S m.val y.2 := by
 obtain ⟨β, hβ, hv⟩ : DM P w G (a.eval x) (.mref b) := hs.opd hx
 obtain ⟨β', arr, clock, h1, h2, h3, h4⟩ := hs.blk b _ hb
 rw [hβ] at h1; cases h1
 exact ⟨β, arr, clock, hv, hβ, h2, h3, h4⟩
theorem H1 {β : Nat} {arr : Array MapEntry} {clock : Nat} {w : World} (h : w.heap[β]? = some (.map arr clock)) : (getObj β).run P w = .ok (.map arr clock) w := by
 simp [getObj, Sem.run, h]
theorem Ll {β : Nat} {arr : Array MapEntry} {clock : Nat} {o : Obj} {w : World} (h : w.heap[β]? = some (.map arr clock)) : (setObj β o).run P w = .ok () (Fs w β o) := by
 simp [setObj, Sem.run, h, Fs]
theorem Hg {K _V : Type} [BEq K] {kt : TypeId} {kd : TypeDesc} {kv : K → Value} {k : K} {es : List MapEntry} {r : Option (Nat × Value)} {w : World} (hu : P.underlying kt = some kd) (h : Instr.findNow kd (kv k) es 0 = some r) : (Instr.findKey kt (kv k) es).run P w = .ok r w := by
 unfold Instr.findKey
 refine Ag (AD hu w) ?_
 rw [h]; rfl
inductive P2 (w : World) : Value → Array MapEntry → Prop where
 | nil : P2 w (.map none) #[]
 | here (β clock : Nat) (arr : Array MapEntry) (h : w.heap[β]? = some (.map arr clock)) : P2 w (.map (some β)) arr
theorem Ps {K V : Type} [BEq K] {t el : Nat} {c : Bool} {z x : Value} {kv : K → Value} {vt : V → T} {m : List (K × V)} {k : K} {dv v0 : V} {w : World} {S : Nat → Prop} {arr : Array MapEntry} (h3 : P2 w x arr) (h4 : arr.size = (DN kv vt m).length)
  (h5 : ∀ (i : Nat) (y : Value × T), (DN kv vt m)[i]? = some y → ∃ e : MapEntry, arr[i]? = some e ∧ e.key = y.1 ∧ Cj w S e.val y.2)
  (hk : OI P t kv) (hel : (match P.underlying t with | some (.map _ e) => e == el | _ => false) = true) (hz : Da P el = some z) (hzv : vt dv = .val z) (hz1 : FH z = true) (hv0 : (Ic k m).getD dv = v0) :
  ∃ v, (Instr.lookup t x (kv k) c).run P w = .ok (if c then .tuple #[v, .bool (Ic k m).isSome] else v) w ∧ Cj w S v (vt v0) := by
 obtain ⟨kt, el', kd, u1, u2, u3, u4⟩ := hk.ty
 rw [u1] at hel
 have hel' : el' = el := by simpa using hel
 subst hel'
 have hes : ∀ (j : Nat) (p : K × V), m[j]? = some p → ∃ e : MapEntry, arr.toList[j]? = some e ∧ e.key = kv p.1 ∧ Cj w S e.val (vt p.2) := fun j p hp => by
  obtain ⟨e, e1, e2, e3⟩ := h5 j (kv p.1, vt p.2) (by unfold DN; rw [uX, hp]; rfl)
  exact ⟨e, by simpa using e1, e2, e3⟩
 rcases Ir (V := V) u3 k m arr.toList 0 (by simp [h4, DN]) (fun j p hp => by obtain ⟨e, e1, e2, _⟩ := hes j p hp; exact ⟨e, e1, e2⟩) with ⟨g1, g2⟩ | ⟨j, q, e, g1, g2, g3, g4, g5, _⟩
 ·refine ⟨z, ?_, ?_⟩
  ·rw [g1]
   unfold Instr.lookup
   refine Ag (AD u1 w) ?_
   cases h3
   case' here h3 => refine Ag (H1 h3) ?_
   all_goals refine Ag (a := _) (w1 := w) rfl ?_
   all_goals refine Ag (u4 _ _ _ _) ?_
   all_goals refine Ag (Hg (_V := V) u2 g2) ?_
   all_goals refine Ag (E9 hz w) ?_
   all_goals exact Ag (a := (z, false)) (w1 := w) rfl rfl
  ·rw [← hv0, g1, Option.getD_none, hzv]; exact .val _ hz1
 ·refine ⟨e.val, ?_, ?_⟩
  ·rw [g4]
   unfold Instr.lookup
   refine Ag (AD u1 w) ?_
   cases h3 with
   | nil => cases g2
   | here β clock _ h3 =>
    refine Ag (H1 h3) ?_
    refine Ag (a := arr) (w1 := w) rfl ?_
    refine Ag (u4 _ _ _ _) ?_
    refine Ag (Hg (_V := V) u2 g5) ?_
    exact Ag (a := (e.val, true)) (w1 := w) rfl rfl
  ·obtain ⟨e', e1, _, e3⟩ := hes j q g1
   rw [g2] at e1; cases e1
   rw [← hv0, g4]; exact e3
inductive V0 : D → List (Value × T) → List (Nat × Bl) → Prop where
 | ref (b : Nat) (es : List (Value × T)) : V0 (.e (.one (.mref b))) es [(b, .mp es)]
 | tree (es : List (Value × T)) : V0 (one (.mp es)) es []
theorem Cu.mpAtD {G : Gh} {a : Act} {w : World} (hs : Cu P X G st a w) {x : Operand} {d : D} {es : List (Value × T)} {bs : List (Nat × Bl)} (hm : V0 d es bs) (hx : Lift.opd st.env x = some d) (hb : F9 st.bx bs) :
  ∃ arr, P2 w (a.eval x) arr ∧ arr.size = es.length ∧ ∀ (i : Nat) (y : Value × T), es[i]? = some y → ∃ m : MapEntry, arr[i]? = some m ∧ m.key = y.1 ∧ Cj w G.S m.val y.2 := by
 cases hm with
 | ref b =>
  obtain ⟨β, arr, clock, h1, h2, h3, h4, h5⟩ := hs.mpAt hx hb.1
  exact ⟨arr, by rw [h1]; exact .here β clock arr h3, h4, h5⟩
 | tree =>
  have h : Cj w G.S (a.eval x) (.mp es) := hs.opd hx
  generalize a.eval x = v at h
  cases h with
  | mp β clock arr _ h1 h2 h3 h4 h5 =>
   refine ⟨arr, .here β clock arr h2, h3, fun i y hy => ?_⟩
   have hlt : i < arr.size := by rw [h3]; exact AC hy
   exact ⟨arr[i], by simp [hlt], h4 i y _ hy (by simp [hlt]), h5 i y _ hy (by simp [hlt])⟩
  | mp0 => exact ⟨#[], .nil, rfl, fun i y hy => by simp at hy⟩
theorem QD {K V : Type} [BEq K] {t s el : Nat} {x y : Operand} {c : Bool} {z : Value} {kv : K → Value} {vt : V → T} {m : List (K × V)} {k : K} {dv v0 : V} {dx : D} {bs : List (Nat × Bl)} (hmd : V0 dx (DN kv vt m) bs) (hat : At st.env ops i X.n (.lookup t x y c) s gs)
  (hx : opd st.env x = some dx) (hy : opd st.env y = some (vD (kv k))) (hb : F9 st.bx bs) (hk : OI P t kv) (hel : (match P.underlying t with | some (.map _ e) => e == el | _ => false) = true) (hz : Da P el = some z) (hzv : vt dv = .val z) (hz1 : FH z = true) (hv0 : (Ic k m).getD dv = v0)
  (next : A4 P X ops dr Q r (i + 1) (BZ.upd ⟨gs ++ [(x, dx), (y, vD (kv k))], bs, some s, some (if c then .tup [.one (.pure (vt v0)), .one (.pure (.val (.bool (Ic k m).isSome)))] else one (vt v0)), [], []⟩ st) ((i, ⟨gs ++ [(x, dx), (y, vD (kv k))], bs, some s, some (if c then .tup [.one (.pure (vt v0)), .one (.pure (.val (.bool (Ic k m).isSome)))] else one (vt v0)), [], []⟩) :: log)) : A4 P X ops dr Q (r + 1) i st log := by
 obtain ⟨o, ho, hop, hd, hn, hg, hgp⟩ := hat.out
 refine A4.step next ⟨Ak.2 ⟨hgp, hx, hy, trivial⟩, hb, trivial⟩ (LR.value ho hg rfl hd.symm (CS hd hn) ?_)
 intro G st a w hs hpre
 obtain ⟨hx, hy, _⟩ := (Ak.1 hpre.r).2
 obtain ⟨arr, h3, h4, h5⟩ := hs.mpAtD hmd hx hpre.b
 have hY : a.eval y = kv k := CN (hs.opd hy : Cj w G.S (a.eval y) (.val _))
 obtain ⟨v, hv1, hv2⟩ := Ps (c := c) h3 h4 h5 hk hel hz hzv hz1 hv0
 refine ⟨(if c then .tuple #[v, .bool (Ic k m).isSome] else v), w, G, ?_, hs, ?_⟩
 ·simp only [execOp, hop, hY]
  exact Ag hv1 rfl
 ·rintro d hd'
  cases c with
  | false => cases hd'; exact ⟨hv2, fun b hb => by cases hb⟩
  | true =>
   cases hd'
   refine ⟨⟨_, rfl, rfl, fun j x hj => ?_⟩, fun b hb => by simp [D.names, Hw, E.names, C.names] at hb⟩
   match j, hj with
   | 0, hj => cases hj; exact hv2
   | 1, hj => cases hj; exact .val _ rfl
theorem RU {K V : Type} [BEq K] {t s b el : Nat} {x y : Operand} {c : Bool} {z : Value} {kv : K → Value} {vt : V → T} {m : List (K × V)} {k : K} {dv v0 : V} (hat : At st.env ops i X.n (.lookup t x y c) s gs)
  (hx : opd st.env x = some (.e (.one (.mref b)))) (hy : opd st.env y = some (vD (kv k))) (hb : st.bx b = some (.mp (DN kv vt m))) (hk : OI P t kv) (hel : (match P.underlying t with | some (.map _ e) => e == el | _ => false) = true) (hz : Da P el = some z) (hzv : vt dv = .val z) (hz1 : FH z = true) (hv0 : (Ic k m).getD dv = v0)
  (next : A4 P X ops dr Q r (i + 1) (BZ.upd ⟨gs ++ [(x, .e (.one (.mref b))), (y, vD (kv k))], [(b, .mp (DN kv vt m))], some s, some (if c then .tup [.one (.pure (vt v0)), .one (.pure (.val (.bool (Ic k m).isSome)))] else one (vt v0)), [], []⟩ st) ((i, ⟨gs ++ [(x, .e (.one (.mref b))), (y, vD (kv k))], [(b, .mp (DN kv vt m))], some s, some (if c then .tup [.one (.pure (vt v0)), .one (.pure (.val (.bool (Ic k m).isSome)))] else one (vt v0)), [], []⟩) :: log)) : A4 P X ops dr Q (r + 1) i st log :=
 QD (.ref b _) hat hx hy ⟨hb, trivial⟩ hk hel hz hzv hz1 hv0 next
theorem Q6 {K V : Type} [BEq K] {t b : Nat} {x y u : Operand} {kv : K → Value} {vt : V → T} {m m' : List (K × V)} {k : K} {v : V} {op : Op} (hat : Qg ops i = some op) (hop' : op = .mapUpdate t x y u ∨ op = .insert t x y u)
  (hx : opd st.env x = some (.e (.one (.mref b)))) (hy : opd st.env y = some (vD (kv k))) (hu : opd st.env u = some (one (vt v))) (hb : st.bx b = some (.mp (DN kv vt m))) (hk : OI P t kv) (hm : KO k v m = m')
  (next : A4 P X ops dr Q r (i + 1) (BZ.upd ⟨[(x, .e (.one (.mref b))), (y, vD (kv k)), (u, one (vt v))], [(b, .mp (DN kv vt m))], none, none, [(b, .mp (DN kv vt m'))], []⟩ st) ((i, ⟨[(x, .e (.one (.mref b))), (y, vD (kv k)), (u, one (vt v))], [(b, .mp (DN kv vt m))], none, none, [(b, .mp (DN kv vt m'))], []⟩) :: log)) : A4 P X ops dr Q (r + 1) i st log := by
 obtain ⟨o, ho, hop, hd, hgn⟩ := Nn hat
 have hg : R1 ops o [] := .none hgn
 refine A4.step next ⟨⟨hx, hy, hu, trivial⟩, ⟨hb, trivial⟩, trivial⟩ (LR.skip (rs := [(x, .e (.one (.mref b))), (y, vD (kv k)), (u, one (vt v))]) ho hg rfl hd rfl ?_)
 intro G st a w hs hpre
 obtain ⟨hx, hy, hu, _⟩ := hpre.r
 have hb := hpre.b.1
 subst hm
 obtain ⟨β, arr, clock, h1, h2, h3, h4, h5⟩ := hs.mpAt hx hb
 have hY : a.eval y = kv k := CN (hs.opd hy : Cj w G.S (a.eval y) (.val _))
 have hU : Cj w G.S (a.eval u) (vt v) := hs.opd hu
 obtain ⟨kt, el', kd, u1, u2, u3, u4⟩ := hk.ty
 have hes : ∀ (j : Nat) (p : K × V), m[j]? = some p → ∃ e : MapEntry, arr.toList[j]? = some e ∧ e.key = kv p.1 ∧ Cj w G.S e.val (vt p.2) := fun j p hp => by
  obtain ⟨e, e1, e2, e3⟩ := h5 j (kv p.1, vt p.2) (by unfold DN; rw [uX, hp]; rfl)
  exact ⟨e, by simpa using e1, e2, e3⟩
 have hat := hs.at_ok b _ β hb rfl (.inl h2)
 have hml : arr.size = m.length := by rw [h4]; simp [DN]
 have fin : ∀ arr' clock', arr'.size = (KO k v m).length → (∀ (j : Nat) (p : K × V), (KO k v m)[j]? = some p → ∃ e : MapEntry, arr'[j]? = some e ∧ e.key = kv p.1 ∧ Cj w G.S e.val (vt p.2)) →
   Cu P X G ⟨st.env, Bx st.bx [(b, .mp (DN kv vt (KO k v m)))]⟩ a (Fs w β (.map arr' clock')) := by
  intro arr' clock' k1 k2
  have hS : ∀ γ, G.S γ → (Fs w β (.map arr' clock')).heap[γ]? = w.heap[γ]? := fun γ hγ => by
   rw [DG, if_neg (fun (h : γ = β ∧ β < w.heap.size) => hat.2.2 (h.1 ▸ hγ))]
  refine hs.setB (b := b) (k0 := .mp (DN kv vt m)) hb rfl rfl (.inl h2) ⟨β, arr', clock', h2, by rw [DG, if_pos ⟨rfl, hat.2.1⟩], by rw [k1]; simp [DN], fun j y hy => ?_⟩ (fun c hc => by cases hc)
  unfold DN at hy
  rw [uX] at hy
  cases hp : (KO k v m)[j]? with
  | none => rw [hp] at hy; cases hy
  | some p =>
   rw [hp] at hy; cases hy
   obtain ⟨e, e1, e2, e3⟩ := k2 j p hp
   exact ⟨e, e1, e2, e3.mono hS fun _ h => h⟩
 have hrun : ∀ w', (Instr.mapUpdate t (.map (some β)) (kv k) (a.eval u)).run P w = .ok () w' → (execOp a.eval o).run P w = .ok .skip w' := fun w' h => by
  rcases hop' with e | e
  ·simp only [execOp, hop, e, h1, hY]; exact Ag h rfl
  ·simp only [execOp, hop, e, h1, hY]; exact Ag h rfl
 rcases Ir (V := V) u3 k m arr.toList 0 (by simp [hml]) (fun j p hp => by obtain ⟨e, e1, e2, _⟩ := hes j p hp; exact ⟨e, e1, e2⟩) with ⟨g1, g2⟩ | ⟨j, q, e, g1, g2, g3, g4, g5, g6⟩
 ·refine ⟨_, G, hrun _ ?_, fin (arr.push { key := kv k, val := a.eval u, born := clock }) (clock + 1) ?_ ?_⟩
  ·unfold Instr.mapUpdate
   refine Ag (AD u1 w) ?_
   refine Ag (H1 h3) ?_
   refine Ag (u4 _ _ _ _) ?_
   refine Ag (Hg (_V := V) u2 g2) ?_
   exact Ll h3
  ·rw [Km k v g1]; simp [hml]
  ·intro j p hp
   rw [Km k v g1] at hp
   by_cases hj : j < m.length
   ·rw [zA0 hj] at hp
    obtain ⟨e, e1, e2, e3⟩ := hes j p hp
    refine ⟨e, ?_, e2, e3⟩
    rw [Array.getElem?_push, if_neg (by omega)]
    simpa using e1
   ·rw [vX (by omega)] at hp
    have hj0 : j - m.length = 0 := by have := AC hp; simp at this; omega
    rw [hj0] at hp; cases hp
    exact ⟨{ key := kv k, val := a.eval u, born := clock }, by rw [Array.getElem?_push, if_pos (by omega)], rfl, hU⟩
 ·have hjm := AC g1
  have hje : arr[j]? = some e := by simpa using g2
  have hek : e.key = kv q.1 := by obtain ⟨e', e1, e2, _⟩ := hes j q g1; rw [g2] at e1; cases e1; exact e2
  refine ⟨_, G, hrun _ ?_, fin (arr.modify j fun e => { e with key := kv k, val := a.eval u }) clock ?_ ?_⟩
  ·unfold Instr.mapUpdate
   refine Ag (AD u1 w) ?_
   refine Ag (H1 h3) ?_
   refine Ag (u4 _ _ _ _) ?_
   refine Ag (Hg (_V := V) u2 g5) ?_
   simp only [uZ]
   refine Ag (a := kv k) (w1 := w) ?_ (Ll h3)
   rw [hje]
   simp only [zB0, vZ]
   unfold Instr.keyThatStays
   rw [hek, hk.same k q.1 g3]; rfl
  ·rw [g6 v]; simp [hml]
  ·intro j' p hp
   rw [g6 v] at hp
   rw [Array.getElem?_modify]
   rcases K1 hp with ⟨rfl, rfl⟩ | ⟨hne, hp⟩
   ·rw [if_pos rfl, hje]
    exact ⟨_, rfl, rfl, hU⟩
   ·rw [if_neg (fun h => hne h.symm)]
    obtain ⟨e', e1, e2, e3⟩ := hes j' p hp
    exact ⟨e', by simpa using e1, e2, e3⟩
end run
end Go.Lift
namespace Go.Lift
open Go.RowKit
variable {P : Program} {X : Gg} {ops : Array Oper}
section run
variable {dr : Bool} {Q : St → Prop} {r i : Nat} {st : St} {log : List (Nat × BZ)} {o : Oper} {gs : List (Operand × D)}
def WP : Ow → Bool
 | .s => true
 | _ => false
end run
def RF (e : Nat) (cols : List Ow) (rows : List (List T)) : Bl := if cols.all WP then .vec e rows else .dvec e cols rows
section run
variable {dr : Bool} {Q : St → Prop} {r i : Nat} {st : St} {log : List (Nat × BZ)} {o : Oper} {gs : List (Operand × D)}
end run
end Go.Lift
namespace Go.Lift
open Go.RowKit
variable {P : Program} {X : Gg} {ops : Array Oper}
section run
variable {dr : Bool} {Q : St → Prop} {r i : Nat} {st : St} {log : List (Nat × BZ)} {o : Oper} {gs : List (Operand × D)}
structure Tr (w : World) (S : Nat → Prop) (e : Nat) (cols : List Ow) (rows : List (List T)) (Rf : Nat → Nat → Nat → Prop) (f : Nat → Value) : Prop where
 len : ∀ (i : Nat) (row : List T), rows[i]? = some row → row.length = e
 cell : ∀ (i : Nat) (row : List T) (j : Nat) (t : T), rows[i]? = some row → row[j]? = some t → O1 w S (cols.getD j .s) (Rf i j) (f (i * e + j)) t
 dis : ∀ i j i' j' γ, Rf i j γ → Rf i' j' γ → i = i' ∧ j = j'
theorem Tr.ones {w : World} {S : Nat → Prop} {e : Nat} {cols : List Ow} {rows : List (List T)} {Rf : Nat → Nat → Nat → Prop} {arr : Array Value} (h : Tr w S e cols rows Rf (Au arr)) (hs : arr.size = rows.length * e) : ∀ u, u ∈ arr.toList → FH u = true := by
 intro u hu
 obtain ⟨k, hk⟩ := vI.1 hu
 have hk' : arr[k]? = some u := by simpa using hk
 have hlt : k < arr.size := by
  rcases vV k arr.size with h' | h'
  ·exact h'
  ·rw [vY h'] at hk'; cases hk'
 rcases Nat.eq_zero_or_pos e with e0 | e0
 ·rw [e0, Nat.mul_zero] at hs; omega
 have h1 : k / e < rows.length := (Nat.div_lt_iff_lt_mul e0).2 (by omega)
 have h2 : k % e < e := Nat.mod_lt _ e0
 have hrow : rows[k / e]? = some rows[k / e] := by simp [h1]
 have hlen := h.len _ _ hrow
 have hcell : (rows[k / e])[k % e]? = some ((rows[k / e])[k % e]'(by omega)) := by simp [show k % e < rows[k / e].length from by omega]
 have := (h.cell _ _ _ _ hrow hcell).one
 rw [show k / e * e + k % e = k from by rw [Nat.mul_comm]; exact Nat.div_add_mod k e] at this
 simpa [Au, hk'] using this
end run
end Go.Lift
namespace Go.Lift
open Go.RowKit
variable {P : Program} {X : Gg} {ops : Array Oper}
theorem LK {α : Type} (f : α → List T) (b e : Nat) (xs : List α) : Mo (.e (.one (.own b))) b e (xs.map f) 0 xs.length := by
 have := Mo.own b e (xs.map f)
 rwa [vP] at this
theorem Qs {α : Type} (f : α → List T) (b e lo len : Nat) (xs : List α) (h : lo + len ≤ xs.length) : Mo (.e (.one (.view b e lo len))) b e (xs.map f) lo len := .view b e _ lo len (by simpa using h)
theorem Qr {α : Type} (f : α → List T) (b e lo len : Nat) (xs : List α) (h : lo + len ≤ xs.length) : N0 (.e (.one (.view b e lo len))) [(b, .vec e (xs.map f))] e (((xs.drop lo).take len).map f) := by
 have := N0.view b e (xs.map f) lo len (by simpa using h)
 rwa [← List.map_drop, ← List.map_take] at this
theorem Sv {α : Type} (f : α → List T) (e : Nat) (xs : List α) (h : ∀ x, (f x).length = e) : N0 (one (.sl (xs.map f))) [] e (xs.map f) := .of (.sl _ _ (Ip h xs))
section run
variable {dr : Bool} {Q : St → Prop} {r i : Nat} {st : St} {log : List (Nat × BZ)} {o : Oper} {gs : List (Operand × D)}
theorem Oo {α : Type} (f : α → List T) (xs : List α) {x : Operand} {t el s e l h b lo0 len lo1 len1 : Nat} {lo hi : Option Operand} {rl rh : List (Operand × D)} {d : D} (hat : At st.env ops i X.n (.slice t x lo hi none) s gs)
  (hx : opd st.env x = some d) (hD : Mo d b e (xs.map f) lo0 len) (hb : st.bx b = some (.vec e (xs.map f))) (ht : sliceB P t el = true) (he : F5 P el e = true) (hlo : OW lo 0 l rl) (hhi : OW hi len h rh) (h1 : DP st.env rl) (h2 : DP st.env rh) (hlh : l ≤ h) (hhl : lo0 + h ≤ xs.length) (e1 : lo0 + l = lo1) (e2 : h - l = len1)
  (next : A4 P X ops dr Q r (i + 1) (BZ.upd ⟨gs ++ ((x, d) :: (rl ++ rh)), [(b, .vec e (xs.map f))], some s, some (.e (.one (.view b e lo1 len1))), [], []⟩ st) ((i, ⟨gs ++ ((x, d) :: (rl ++ rh)), [(b, .vec e (xs.map f))], some s, some (.e (.one (.view b e lo1 len1))), [], []⟩) :: log)) : A4 P X ops dr Q (r + 1) i st log := by
 subst e1; subst e2
 exact RI hat hx hD hb ht he hlo hhi h1 h2 hlh (by simpa using hhl) next
theorem P8 {α : Type} (f : α → List T) (xs ys : List α) {x y : Operand} {t t2 el s e b lo len : Nat} {d d2 : D} {rb2 : List (Nat × Bl)} (hat : At st.env ops i X.n (.call ⟨.builtin .copy, #[x, y], #[t, t2]⟩) s gs)
  (hx : opd st.env x = some d) (hD : Mo d b e (xs.map f) lo len) (hb : st.bx b = some (.vec e (xs.map f))) (hy : opd st.env y = some d2) (hS : N0 d2 rb2 e (ys.map f)) (hb2 : F9 st.bx rb2) (ht : sliceB P t el = true) (he : F5 P el e = true)
  (next : A4 P X ops dr Q r (i + 1) (BZ.upd ⟨gs ++ [(x, d), (y, d2)], (b, .vec e (xs.map f)) :: rb2, some s, some (vD (.int .i64 ((zA3 ys.length len : Nat) : Int))), [(b, .vec e ((Ns xs lo (ys.take (zA3 ys.length len))).map f))], []⟩ st) ((i, ⟨gs ++ [(x, d), (y, d2)], (b, .vec e (xs.map f)) :: rb2, some s, some (vD (.int .i64 ((zA3 ys.length len : Nat) : Int))), [(b, .vec e ((Ns xs lo (ys.take (zA3 ys.length len))).map f))], []⟩) :: log)) : A4 P X ops dr Q (r + 1) i st log := by
 have hl : (ys.map f).length = ys.length := vP _
 refine T8 hat hx hD hb hy hS hb2 ht he (rows' := (Ns xs lo (ys.take (zA3 ys.length len))).map f) ?_ ?_
 ·rw [hl, ← List.map_take, SH]
 ·rw [hl]; exact next
end run
theorem To {c : Code} {Q : Exit → St → Prop} {st : St} (h : W P X c (fun e st => ∃ st', EZ P X st st' ∧ Q e st') st) : W P X c Q st := by
 intro a w hs
 refine wp_mono (h a w hs) ?_
 rintro e a' w' ⟨st', ⟨st2, h1, h2⟩, h3⟩
 exact ⟨st2, h2, h1 a' w' h3⟩
def PR (f : Nat → Nat) (env : Nat → Option D) : List (Nat × D) → Prop
 | [] => True
 | (s, d) :: ps => env s = some (d.ren f) ∧ PR f env ps
def P1 (f : Nat → Nat) (bx : Nat → Option Bl) : List (Nat × Bl) → Prop
 | [] => True
 | (b, k) :: ps => bx (f b) = some (k.ren f) ∧ P1 f bx ps
def DZ : List (Nat × Bl) → List Nat
 | [] => []
 | (b, _) :: ps => b :: DZ ps
def Kk (f : Nat → Nat) : List Nat → Bool
 | [] => true
 | b :: bs => (if By b then f b == b else !By (f b)) && Kk f bs
def Vu (b : Nat) : List Nat → Bool
 | [] => false
 | c :: cs => c == b || Vu b cs
def MO (ns : List Nat) : List (Nat × D) → Bool
 | [] => true
 | (_, d) :: ps => (d.names.all fun b => Vu b ns) && MO ns ps
def MK (ns : List Nat) : List (Nat × Bl) → Bool
 | [] => true
 | (_, d) :: ps => (d.names.all fun b => Vu b ns) && MK ns ps
theorem Of {f : Nat → Nat} {env : Nat → Option D} : ∀ {el : List (Nat × D)}, PR f env el → R5 f env el
 | [], _ => trivial
 | (_, _) :: _, h => ⟨h.1, Of h.2⟩
theorem N8 {f : Nat → Nat} {bx : Nat → Option Bl} : ∀ {bl : List (Nat × Bl)}, P1 f bx bl → Sx f bx bl
 | [], _ => trivial
 | (_, _) :: _, h => ⟨h.1, N8 h.2⟩
theorem MY : ∀ bl : List (Nat × Bl), DZ bl = bl.map (·.1)
 | [] => rfl
 | (b, k) :: ps => by simp [DZ, MY ps]
theorem MJ {f : Nat → Nat} : ∀ bl : List (Nat × Bl), Kk f (DZ bl) = bl.all fun p => if By p.1 then f p.1 == p.1 else !By (f p.1)
 | [] => rfl
 | (b, k) :: ps => by simp only [DZ, Kk, zB3, MJ ps]
theorem Pk {b : Nat} : ∀ bl : List (Nat × Bl), Vu b (DZ bl) = bl.any fun q => q.1 == b
 | [] => rfl
 | (c, k) :: ps => by simp only [DZ, Vu, List.any_cons, Pk ps]
theorem OV (bl : List (Nat × Bl)) : ∀ el : List (Nat × D), MO (DZ bl) el = el.all fun p => p.2.names.all fun b => bl.any fun q => q.1 == b
 | [] => rfl
 | (s, d) :: ps => by simp only [MO, zB3, OV bl ps, Pk]
theorem Oz (bl : List (Nat × Bl)) : ∀ el : List (Nat × Bl), MK (DZ bl) el = el.all fun p => p.2.names.all fun b => bl.any fun q => q.1 == b
 | [] => rfl
 | (s, d) :: ps => by simp only [MK, zB3, Oz bl ps, Pk]
theorem Re {st : St} (f : Nat → Nat) (el : List (Nat × D)) (bl : List (Nat × Bl)) (he : PR f st.env el) (hb : P1 f st.bx bl) (hi : (GV ((DZ bl).map f) && Kk f (DZ bl)) = true) (hs : (MO (DZ bl) el && MK (DZ bl) bl) = true) : EZ P X st (mk el bl) := by
 refine Sn f el bl (Of he) (N8 hb) ?_ ?_
 ·rw [MJ, MY] at hi; exact hi
 ·rw [OV, Oz] at hs; exact hs
theorem Qw {dr : Bool} {Q : St → Prop} {r i : Nat} {st : St} {log : List (Nat × BZ)} {gs : List (Operand × D)} {x y : Operand} {t s : Nat} {b : ByteArray} {k : IntKind} {n v : Int} (hat : At st.env ops i X.n (.index t x y) s gs)
  (hx : opd st.env x = some (vD (.string b))) (hy : opd st.env y = some (vD (.int k n))) (ht : Kp P t = true) (hv : Sj b n = some v)
  (next : A4 P X ops dr Q r (i + 1) (BZ.upd ⟨gs ++ [(x, vD (.string b)), (y, vD (.int k n))], [], some s, some (vD (.int .u8 v)), [], []⟩ st) ((i, ⟨gs ++ [(x, vD (.string b)), (y, vD (.int k n))], [], some s, some (vD (.int .u8 v)), [], []⟩) :: log)) : A4 P X ops dr Q (r + 1) i st log := by
 obtain ⟨c, h0, hc, e⟩ := Qh (f := some) (r := v) (by rw [hv]; rfl)
 cases e
 exact QV hat hx hy ht h0 hc next
theorem MQ {t kt el : TypeId} {k : IntKind} (h1 : P.underlying t = some (.map kt el)) (h2 : P.underlying kt = some (.int k)) : OI P t (Value.int k) where
 ty := ⟨kt, el, .int k, h1, h2, fun a b => by simp [Instr.sameNow], fun e n v w => by
  unfold Instr.checkKey
  refine Ag (AD h2 w) ?_
  rfl⟩
 same := fun a b h => by
  show (k == k && b == a) = true
  rw [beq_iff_eq] at h; subst h; simp
end Go.Lift
namespace Go.Lift
open Go.RowKit
variable {P : Program} {X : Gg} {ops : Array Oper}
def hd (env : Nat → Option D) (ops : Array Oper) (i n : Nat) : Option (Op × Nat × List (Operand × D)) := match V7 ops i n with
 | some (op, s) => some (op, s, [])
 | none => match Wq ops i n with
  | some (op, s, t, want) => (match env t, want with
   | some (.e (.one (.pure (.val (.bool true))))), true => some (op, s, [(.tmp t, bD true)])
   | some (.e (.one (.pure (.val (.bool false))))), false => some (op, s, [(.tmp t, bD false)])
   | _, _ => none)
  | none => none
theorem CE {env : Nat → Option D} {n i s : Nat} {op : Op} {gs : List (Operand × D)} (h : hd env ops i n = some (op, s, gs)) : At env ops i n op s gs := by
 unfold hd at h
 split at h
 ·rename_i e; cases h; exact .p e
 ·split at h
  ·rename_i e
   split at h
   ·rename_i e2; cases h; exact .g e e2
   ·rename_i e2; cases h; exact .g e e2
   ·cases h
  ·cases h
theorem t2 {α β : Type} {a c : α} {b d : β} (h : (a, b) = (c, d)) : a = c ∧ b = d := Prod.mk.inj h
abbrev Nx (P : Program) (X : Gg) (ops : Array Oper) (dr : Bool) (Q : St → Prop) (r i : Nat) (st : St) (log : List (Nat × BZ)) (l : BZ) : Prop := A4 P X ops dr Q r (i + 1) (BZ.upd l st) ((i, l) :: log)
theorem sj {α : Type} {a b : α} (h : some a = some b) : a = b := Option.some.inj h
def RN (env : Nat → Option D) : List Operand → Option (List D)
 | [] => some []
 | x :: xs => match opd env x, RN env xs with
  | some d, some ds => some (d :: ds)
  | _, _ => none
theorem NX {env : Nat → Option D} : ∀ {xs : List Operand} {ds : List D}, RN env xs = some ds → xs.length = ds.length ∧ DP env (F0 xs ds)
 | [], ds, h => by cases h; exact ⟨rfl, trivial⟩
 | x :: xs, ds, h => by
  simp only [RN] at h
  split at h
  ·rename_i e1 e2
   cases h
   have := NX e2
   exact ⟨by simp [this.1], e1, this.2⟩
  ·cases h
def V2 (bx : Nat → Option Bl) : List Nat → Option (List (Nat × Bl))
 | [] => some []
 | b :: bs => match bx b, V2 bx bs with
  | some k, some ks => some ((b, k) :: ks)
  | _, _ => none
theorem RA {bx : Nat → Option Bl} : ∀ {l : List Nat} {bs : List (Nat × Bl)}, V2 bx l = some bs → F9 bx bs
 | [], bs, h => by cases h; trivial
 | b :: l, bs, h => by
  simp only [V2] at h
  split at h
  ·rename_i e1 e2
   cases h
   exact ⟨e1, RA e2⟩
  ·cases h
def Ut (env : Nat → Option D) : List (Nat × Operand) → Option (List (Nat × Operand × E))
 | [] => some []
 | p :: ps => match opd env p.2, Ut env ps with
  | some (.e y), some qs => some ((p.1, p.2, y) :: qs)
  | _, _ => none
theorem PX {env : Nat → Option D} : ∀ {l : List (Nat × Operand)} {ps : List (Nat × Operand × E)}, Ut env l = some ps → l = (ps.map fun p => (p.1, p.2.1)) ∧ DP env (FL ps)
 | [], ps, h => by cases h; exact ⟨rfl, trivial⟩
 | p :: l, ps, h => by
  simp only [Ut] at h
  split at h
  ·rename_i e1 e2
   cases h
   have := PX e2
   exact ⟨by rw [vT, ← this.1], e1, this.2⟩
  ·cases h
theorem Rj {env : Nat → Option D} {parts : Array (Nat × Operand)} {ps : List (Nat × Operand × E)} (h : Ut env parts.toList = some ps) : parts = (ps.map fun p => (p.1, p.2.1)).toArray ∧ DP env (FL ps) := by
 have := PX h
 exact ⟨by rw [← this.1], this.2⟩
def Sd (k : Nat) : List (Nat × Operand × E) → Bool
 | [] => true
 | p :: ps => Nat.beq p.1 k && Sd (k + 1) ps
theorem PS : ∀ {k : Nat} {ps : List (Nat × Operand × E)}, Sd k ps = true → ps.map (·.1) = zD3 k ps.length
 | _, [], _ => rfl
 | k, p :: ps, h => by
  simp only [Sd, uU] at h
  rw [vT, zB6, List.range'_succ, PS h.2, Nat.eq_of_beq_eq_true h.1]
def V5 : Option Bl → Bool
 | none => true
 | some _ => false
theorem M5 {bx : Nat → Option Bl} : ∀ {ns : List Nat}, (ns.all fun n => V5 (bx n)) = true → J6 bx ns
 | [], _ => trivial
 | n :: ns, h => by
  simp only [zB3, uU] at h
  refine ⟨?_, M5 h.2⟩
  have := h.1
  cases hb : bx n with
  | none => rfl
  | some k => rw [hb] at this; cases this
theorem MC {ns : List Nat} (h : (GV ns && (ns.all fun n => !By n)) = true) : Ih ns := by
 rw [uU] at h
 exact ⟨Ea h.1, fun c hc => by simpa using uT.1 h.2 c hc⟩
def Vy (env : Nat → Option D) : List (Nat × D) → List (Option D)
 | [] => []
 | (s, _) :: ps => env s :: Vy env ps
def U7 (f : Nat → Nat) : List (Nat × D) → List (Option D)
 | [] => []
 | (_, d) :: ps => some (d.ren f) :: U7 f ps
def VC (f : Nat → Nat) (bx : Nat → Option Bl) : List (Nat × Bl) → List (Option Bl)
 | [] => []
 | (b, _) :: ps => bx (f b) :: VC f bx ps
def U9 (f : Nat → Nat) : List (Nat × Bl) → List (Option Bl)
 | [] => []
 | (_, k) :: ps => some (k.ren f) :: U9 f ps
theorem RQ {f : Nat → Nat} {env : Nat → Option D} : ∀ {el : List (Nat × D)}, Vy env el = U7 f el → PR f env el
 | [], _ => trivial
 | (s, d) :: el, h => by
  simp only [Vy, U7] at h
  obtain ⟨h1, h2⟩ := List.cons.inj h
  exact ⟨h1, RQ h2⟩
theorem Rc {f : Nat → Nat} {bx : Nat → Option Bl} : ∀ {el : List (Nat × Bl)}, VC f bx el = U9 f el → P1 f bx el
 | [], _ => trivial
 | (s, d) :: el, h => by
  simp only [VC, U9] at h
  obtain ⟨h1, h2⟩ := List.cons.inj h
  exact ⟨h1, Rc h2⟩
theorem sm {st : St} (l : List (Nat × Nat)) (el : List (Nat × D)) (bl : List (Nat × Bl)) (h : (Vy st.env el, VC (rn l) st.bx bl) = (U7 (rn l) el, U9 (rn l) bl)) (hi : ((GV ((DZ bl).map (rn l)) && Kk (rn l) (DZ bl)) && (MO (DZ bl) el && MK (DZ bl) bl)) = true) : EZ P X st (mk el bl) :=
 Re (rn l) el bl (RQ (t2 h).1) (Rc (t2 h).2) (zB9.1 hi).1 (zB9.1 hi).2
section run
variable {dr : Bool} {Q : St → Prop} {r i : Nat} {st : St} {log : List (Nat × BZ)} {gs : List (Operand × D)}
theorem qm {x : Operand} {d : D} {s : Nat} (h : (hd st.env ops i X.n, opd st.env x) = (some (.move x, s, gs), some d)) (next : Nx P X ops dr Q r i st log ⟨gs ++ [(x, d)], [], some s, some d, [], []⟩) : A4 P X ops dr Q (r + 1) i st log :=
 Ue (CE (t2 h).1) (t2 h).2 next
theorem qa {x : Operand} {d : D} {s : Nat} (h : (hd st.env ops i X.n, opd st.env x) = (some (.assign x, s, gs), some d)) (next : Nx P X ops dr Q r i st log ⟨gs ++ [(x, d)], [], some s, some d, [], []⟩) : A4 P X ops dr Q (r + 1) i st log :=
 Rk (CE (t2 h).1) (t2 h).2 next
theorem qn {j t s : Nat} {want : Bool} (h : (T6 ops i X.n, st.env t) = (some (j, s, t, want), some (bD (!want)))) (next : Nx P X ops dr Q r i st log ⟨[(.tmp t, bD (!want))], [], some s, some uD, [], []⟩) : A4 P X ops dr Q (r + 1) i st log :=
 Um (t2 h).1 (t2 h).2 next
theorem qu {j t s : Nat} {want : Bool} (h : (T6 ops i X.n, st.env t) = (some (j, s, t, want), some uD)) (next : Nx P X ops dr Q r i st log ⟨[(.tmp t, uD)], [], some s, some uD, [], []⟩) : A4 P X ops dr Q (r + 1) i st log :=
 TO (t2 h).1 (t2 h).2 next
theorem qp {c x y : Operand} {b : Bool} {d : D} {z : Operand} {s : Nat} (h : (hd st.env ops i X.n, opd st.env c, (if b then x else y), opd st.env z) = (some (.pick c x y, s, gs), some (bD b), z, some d)) (next : Nx P X ops dr Q r i st log ⟨gs ++ [(c, bD b), (z, d)], [], some s, some d, [], []⟩) : A4 P X ops dr Q (r + 1) i st log :=
 Uk (CE (t2 h).1) (t2 (t2 h).2).1 (t2 (t2 (t2 h).2).2).1 (t2 (t2 (t2 h).2).2).2 next
theorem qf {x : Operand} {b k f off s : Nat} {t : TypeId} (hf : Bk P t f off = true) (h : (hd st.env ops i X.n, opd st.env x) = (some (.fieldAddr t x f, s, gs), some (.e (.one (.ptr b k))))) (next : Nx P X ops dr Q r i st log ⟨gs ++ [(x, .e (.one (.ptr b k)))], [], some s, some (.e (.one (.ptr b (k + off)))), [], []⟩) : A4 P X ops dr Q (r + 1) i st log :=
 OC (CE (t2 h).1) (t2 h).2 hf next
theorem qg {x : Operand} {ts us : List T} {f off s : Nat} {t : TypeId} (hf : Bk P t f off = true) (h : (hd st.env ops i X.n, opd st.env x, zB7 (off) (ts.length), ts.drop off) = (some (.fieldAddr t x f, s, gs), some (.e (.one (.rop ts))), true, us)) (next : Nx P X ops dr Q r i st log ⟨gs ++ [(x, .e (.one (.rop ts)))], [], some s, some (.e (.one (.rop us))), [], []⟩) : A4 P X ops dr Q (r + 1) i st log :=
 Ny (CE (t2 h).1) (t2 (t2 h).2).1 hf (vN (t2 (t2 (t2 h).2).2).1) (t2 (t2 (t2 h).2).2).2 next
theorem ql {x : Operand} {b k s : Nat} {cells : List C} {c : C} {t : TypeId} (ht : DY P t false = true) (h : (hd st.env ops i X.n, opd st.env x, st.bx b, cells[k]?) = (some (.load t x, s, gs), some (.e (.one (.ptr b k))), some (.box cells), some c)) (next : Nx P X ops dr Q r i st log ⟨gs ++ [(x, .e (.one (.ptr b k)))], [(b, .box cells)], some s, some (.e (.one c)), [], []⟩) : A4 P X ops dr Q (r + 1) i st log :=
 S9 (CE (t2 h).1) (t2 (t2 h).2).1 ht (t2 (t2 (t2 h).2).2).1 (t2 (t2 (t2 h).2).2).2 next
theorem qL {x : Operand} {b k n s : Nat} {cells cs : List C} {t : TypeId} (ht : DY P t true = true) (hz : F5 P t n = true) (h : (hd st.env ops i X.n, opd st.env x, st.bx b, (cells.drop k).take n, cs.length) = (some (.load t x, s, gs), some (.e (.one (.ptr b k))), some (.box cells), cs, n)) (next : Nx P X ops dr Q r i st log ⟨gs ++ [(x, .e (.one (.ptr b k)))], [(b, .box cells)], some s, some (.e (.agg cs)), [], []⟩) : A4 P X ops dr Q (r + 1) i st log :=
 Sk (CE (t2 h).1) (t2 (t2 h).2).1 ht hz (t2 (t2 (t2 h).2).2).1 (t2 (t2 (t2 (t2 h).2).2).2).1 (t2 (t2 (t2 (t2 h).2).2).2).2 next
theorem qk {x : Operand} {s : Nat} {ts : List T} {u : T} {t : TypeId} (ht : DY P t false = true) (h : (hd st.env ops i X.n, opd st.env x, ts[0]?) = (some (.load t x, s, gs), some (.e (.one (.rop ts))), some u)) (next : Nx P X ops dr Q r i st log ⟨gs ++ [(x, .e (.one (.rop ts)))], [], some s, some (one u), [], []⟩) : A4 P X ops dr Q (r + 1) i st log :=
 QS (CE (t2 h).1) (t2 (t2 h).2).1 ht (t2 (t2 h).2).2 next
theorem qK {x : Operand} {s n : Nat} {ts us : List T} {t : TypeId} (ht : DY P t true = true) (hz : F5 P t n = true) (h : (hd st.env ops i X.n, opd st.env x, ts.take n, us.length) = (some (.load t x, s, gs), some (.e (.one (.rop ts))), us, n)) (next : Nx P X ops dr Q r i st log ⟨gs ++ [(x, .e (.one (.rop ts)))], [], some s, some (.e (.agg (us.map C.pure))), [], []⟩) : A4 P X ops dr Q (r + 1) i st log :=
 Q3 (CE (t2 h).1) (t2 (t2 h).2).1 ht hz (t2 (t2 (t2 h).2).2).1 (t2 (t2 (t2 h).2).2).2 next
theorem qx {x : Operand} {xs : List E} {y : E} {k s : Nat} (h : (hd st.env ops i X.n, opd st.env x, xs[k]?) = (some (.extract x k, s, gs), some (.tup xs), some y)) (next : Nx P X ops dr Q r i st log ⟨gs ++ [(x, .tup xs)], [], some s, some (.e y), [], []⟩) : A4 P X ops dr Q (r + 1) i st log :=
 QF (CE (t2 h).1) (t2 (t2 h).2).1 (t2 (t2 h).2).2 next
theorem qb {x : Operand} {y : E} {s : Nat} {el : TypeId} (h : (hd st.env ops i X.n, opd st.env x, st.bx s) = (some (.box el x, s, gs), some (.e y), none)) (next : Nx P X ops dr Q r i st log ⟨gs ++ [(x, .e y)], [], some s, some (.e (.one (.ptr s 0))), [(s, .box y.cells)], [s]⟩) : A4 P X ops dr Q (r + 1) i st log :=
 UH (CE (t2 h).1) (t2 (t2 h).2).1 (t2 (t2 h).2).2 next
theorem qz {z : Value} {zs : List Value} {s : Nat} {el : TypeId} (hz : Da P el = some z) (h : (hd st.env ops i X.n, z.cells.toList, zs.all FH, st.bx s) = (some (.alloc el, s, gs), zs, true, none)) (next : Nx P X ops dr Q r i st log ⟨gs ++ [], [], some s, some (.e (.one (.ptr s 0))), [(s, .box (zs.map fun v => C.pure (T.of v)))], [s]⟩) : A4 P X ops dr Q (r + 1) i st log :=
 SZ (CE (t2 h).1) hz (t2 (t2 h).2).1 (t2 (t2 (t2 h).2).2).1 (t2 (t2 (t2 h).2).2).2 next
theorem qs {x y : Operand} {b k n : Nat} {cells cells' : List C} {v : E} {t : TypeId} (hz : F5 P t n = true) (h : (Qg ops i, opd st.env x, opd st.env y, st.bx b, v.cells.length, zB7 (k + n) (cells.length), HB cells k v.cells) = (some (.store t x y), some (.e (.one (.ptr b k))), some (.e v), some (.box cells), n, true, cells')) (next : Nx P X ops dr Q r i st log ⟨[(x, .e (.one (.ptr b k))), (y, .e v)], [(b, .box cells)], none, none, [(b, .box cells')], []⟩) : A4 P X ops dr Q (r + 1) i st log :=
 SQ (t2 h).1 (t2 (t2 h).2).1 (t2 (t2 (t2 h).2).2).1 (t2 (t2 (t2 (t2 h).2).2).2).1 hz (t2 (t2 (t2 (t2 (t2 h).2).2).2).2).1 (vN (t2 (t2 (t2 (t2 (t2 (t2 h).2).2).2).2).2).1) (t2 (t2 (t2 (t2 (t2 (t2 h).2).2).2).2).2).2 next
theorem qi {x y : Operand} {s e : Nat} {rows : List (List T)} {row : List T} {t el : TypeId} {k : IntKind} {n : Int} (ht : sliceB P t el = true) (hz : F5 P el e = true) (h0 : 0 ≤ n) (hrow : rows[n.toNat]? = some row) (h : (hd st.env ops i X.n, opd st.env x, opd st.env y, row.length) = (some (.indexAddr t x y, s, gs), some (one (.sl rows)), some (vD (.int k n)), e)) (next : Nx P X ops dr Q r i st log ⟨gs ++ [(x, one (.sl rows)), (y, vD (.int k n))], [], some s, some (.e (.one (.rop row))), [], []⟩) : A4 P X ops dr Q (r + 1) i st log :=
 SS (CE (t2 h).1) (t2 (t2 h).2).1 (t2 (t2 (t2 h).2).2).1 ht hz h0 hrow (t2 (t2 (t2 h).2).2).2 next
theorem qI {x y : Operand} {s e b : Nat} {rows : List (List T)} {row : List T} {t el : TypeId} {k : IntKind} {n : Int} (ht : sliceB P t el = true) (hz : F5 P el e = true) (h0 : 0 ≤ n) (hrow : rows[n.toNat]? = some row) (h : (hd st.env ops i X.n, opd st.env x, opd st.env y, st.bx b) = (some (.indexAddr t x y, s, gs), some (.e (.one (.own b))), some (vD (.int k n)), some (.vec e rows))) (next : Nx P X ops dr Q r i st log ⟨gs ++ [(x, .e (.one (.own b))), (y, vD (.int k n))], [(b, .vec e rows)], some s, some (.e (.one (.eptr b e n.toNat 0))), [], []⟩) : A4 P X ops dr Q (r + 1) i st log :=
 NZ (CE (t2 h).1) (t2 (t2 h).2).1 (t2 (t2 (t2 h).2).2).1 (t2 (t2 (t2 h).2).2).2 ht hz h0 hrow next
theorem qj {x : Operand} {b e ix k s : Nat} {rows : List (List T)} {row : List T} {u : T} {t : TypeId} (ht : DY P t false = true) (hrow : rows[ix]? = some row) (h : (hd st.env ops i X.n, opd st.env x, st.bx b, row[k]?) = (some (.load t x, s, gs), some (.e (.one (.eptr b e ix k))), some (.vec e rows), some u)) (next : Nx P X ops dr Q r i st log ⟨gs ++ [(x, .e (.one (.eptr b e ix k)))], [(b, .vec e rows)], some s, some (one u), [], []⟩) : A4 P X ops dr Q (r + 1) i st log :=
 OD (CE (t2 h).1) (t2 (t2 h).2).1 ht (t2 (t2 (t2 h).2).2).1 hrow (t2 (t2 (t2 h).2).2).2 next
theorem qJ {x : Operand} {b e ix s : Nat} {rows : List (List T)} {row : List T} {t : TypeId} (ht : DY P t true = true) (hz : F5 P t e = true) (hrow : rows[ix]? = some row) (h : (hd st.env ops i X.n, opd st.env x, st.bx b) = (some (.load t x, s, gs), some (.e (.one (.eptr b e ix 0))), some (.vec e rows))) (next : Nx P X ops dr Q r i st log ⟨gs ++ [(x, .e (.one (.eptr b e ix 0)))], [(b, .vec e rows)], some s, some (.e (.agg (row.map C.pure))), [], []⟩) : A4 P X ops dr Q (r + 1) i st log :=
 Rv (CE (t2 h).1) (t2 (t2 h).2).1 ht hz (t2 (t2 h).2).2 hrow next
theorem HK {x : Operand} {s b k : Nat} (h : (hd st.env ops i X.n, opd st.env x) = (some (.nilCheck x, s, gs), some (.e (.one (.ptr b k))))) (next : Nx P X ops dr Q r i st log ⟨gs ++ [(x, .e (.one (.ptr b k)))], [], some s, some (.e (.one (.ptr b k))), [], []⟩) : A4 P X ops dr Q (r + 1) i st log :=
 O3 (CE (t2 h).1) (t2 h).2 next
theorem Cg {k : IntKind} {xt yt : TypeId} {x y : Operand} {a b : Int} {s : Nat} (h : (hd st.env ops i X.n, opd st.env x, opd st.env y) = (some (.binOp .add xt x y yt, s, gs), some (vD (.int k a)), some (vD (.int k b)))) (next : Nx P X ops dr Q r i st log ⟨gs ++ [(x, vD (.int k a)), (y, vD (.int k b))], [], some s, some (vD (.int k (k.wrap (a + b)))), [], []⟩) : A4 P X ops dr Q (r + 1) i st log :=
 D9 (CE (t2 h).1) (t2 (t2 h).2).1 (t2 (t2 h).2).2 (SW _ _ _ _ _ _) rfl next
theorem KJ {k : IntKind} {xt yt : TypeId} {x y : Operand} {a b : Int} {s : Nat} (h : (hd st.env ops i X.n, opd st.env x, opd st.env y) = (some (.binOp .sub xt x y yt, s, gs), some (vD (.int k a)), some (vD (.int k b)))) (next : Nx P X ops dr Q r i st log ⟨gs ++ [(x, vD (.int k a)), (y, vD (.int k b))], [], some s, some (vD (.int k (k.wrap (a - b)))), [], []⟩) : A4 P X ops dr Q (r + 1) i st log :=
 D9 (CE (t2 h).1) (t2 (t2 h).2).1 (t2 (t2 h).2).2 (S1 _ _ _ _ _ _) rfl next
theorem MG {k : IntKind} {xt yt : TypeId} {x y : Operand} {a b : Int} {s : Nat} (h : (hd st.env ops i X.n, opd st.env x, opd st.env y) = (some (.binOp .mul xt x y yt, s, gs), some (vD (.int k a)), some (vD (.int k b)))) (next : Nx P X ops dr Q r i st log ⟨gs ++ [(x, vD (.int k a)), (y, vD (.int k b))], [], some s, some (vD (.int k (k.wrap (a * b)))), [], []⟩) : A4 P X ops dr Q (r + 1) i st log :=
 D9 (CE (t2 h).1) (t2 (t2 h).2).1 (t2 (t2 h).2).2 (SU _ _ _ _ _ _) rfl next
theorem AR {k : IntKind} {xt yt : TypeId} {x y : Operand} {a b : Int} {s : Nat} (h : (hd st.env ops i X.n, opd st.env x, opd st.env y) = (some (.binOp .eql xt x y yt, s, gs), some (vD (.int k a)), some (vD (.int k b)))) (next : Nx P X ops dr Q r i st log ⟨gs ++ [(x, vD (.int k a)), (y, vD (.int k b))], [], some s, some (vD (.bool (a == b))), [], []⟩) : A4 P X ops dr Q (r + 1) i st log :=
 D9 (CE (t2 h).1) (t2 (t2 h).2).1 (t2 (t2 h).2).2 (SF _ _ _ _ _ _) rfl next
theorem BD {k : IntKind} {xt yt : TypeId} {x y : Operand} {a b : Int} {s : Nat} (h : (hd st.env ops i X.n, opd st.env x, opd st.env y) = (some (.binOp .neq xt x y yt, s, gs), some (vD (.int k a)), some (vD (.int k b)))) (next : Nx P X ops dr Q r i st log ⟨gs ++ [(x, vD (.int k a)), (y, vD (.int k b))], [], some s, some (vD (.bool (a != b))), [], []⟩) : A4 P X ops dr Q (r + 1) i st log :=
 D9 (CE (t2 h).1) (t2 (t2 h).2).1 (t2 (t2 h).2).2 (SV _ _ _ _ _ _) rfl next
theorem A2 {k : IntKind} {xt yt : TypeId} {x y : Operand} {a b : Int} {s : Nat} (h : (hd st.env ops i X.n, opd st.env x, opd st.env y) = (some (.binOp .lss xt x y yt, s, gs), some (vD (.int k a)), some (vD (.int k b)))) (next : Nx P X ops dr Q r i st log ⟨gs ++ [(x, vD (.int k a)), (y, vD (.int k b))], [], some s, some (vD (.bool (decide (a < b)))), [], []⟩) : A4 P X ops dr Q (r + 1) i st log :=
 D9 (CE (t2 h).1) (t2 (t2 h).2).1 (t2 (t2 h).2).2 (SC _ _ _ _ _ _) rfl next
theorem Lh {k : IntKind} {xt yt : TypeId} {x y : Operand} {a b : Int} {s : Nat} (h : (hd st.env ops i X.n, opd st.env x, opd st.env y) = (some (.binOp .leq xt x y yt, s, gs), some (vD (.int k a)), some (vD (.int k b)))) (next : Nx P X ops dr Q r i st log ⟨gs ++ [(x, vD (.int k a)), (y, vD (.int k b))], [], some s, some (vD (.bool (decide (a ≤ b)))), [], []⟩) : A4 P X ops dr Q (r + 1) i st log :=
 D9 (CE (t2 h).1) (t2 (t2 h).2).1 (t2 (t2 h).2).2 (Sa _ _ _ _ _ _) rfl next
theorem DX {k : IntKind} {xt yt : TypeId} {x y : Operand} {a b : Int} {s : Nat} (h : (hd st.env ops i X.n, opd st.env x, opd st.env y) = (some (.binOp .gtr xt x y yt, s, gs), some (vD (.int k a)), some (vD (.int k b)))) (next : Nx P X ops dr Q r i st log ⟨gs ++ [(x, vD (.int k a)), (y, vD (.int k b))], [], some s, some (vD (.bool (decide (b < a)))), [], []⟩) : A4 P X ops dr Q (r + 1) i st log :=
 D9 (CE (t2 h).1) (t2 (t2 h).2).1 (t2 (t2 h).2).2 (R6 _ _ _ _ _ _) rfl next
theorem Dg {k : IntKind} {xt yt : TypeId} {x y : Operand} {a b : Int} {s : Nat} (h : (hd st.env ops i X.n, opd st.env x, opd st.env y) = (some (.binOp .geq xt x y yt, s, gs), some (vD (.int k a)), some (vD (.int k b)))) (next : Nx P X ops dr Q r i st log ⟨gs ++ [(x, vD (.int k a)), (y, vD (.int k b))], [], some s, some (vD (.bool (decide (b ≤ a)))), [], []⟩) : A4 P X ops dr Q (r + 1) i st log :=
 D9 (CE (t2 h).1) (t2 (t2 h).2).1 (t2 (t2 h).2).2 (Sq _ _ _ _ _ _) rfl next
theorem MS {k : IntKind} {xt yt : TypeId} {x y : Operand} {a b : Int} {s : Nat} (h : (hd st.env ops i X.n, opd st.env x, opd st.env y) = (some (.binOp .and xt x y yt, s, gs), some (vD (.int k a)), some (vD (.int k b)))) (next : Nx P X ops dr Q r i st log ⟨gs ++ [(x, vD (.int k a)), (y, vD (.int k b))], [], some s, some (vD (.int k (Ft k a b))), [], []⟩) : A4 P X ops dr Q (r + 1) i st log :=
 D9 (CE (t2 h).1) (t2 (t2 h).2).1 (t2 (t2 h).2).2 (SA _ _ _ _ _ _) rfl next
theorem QM {k : IntKind} {xt yt : TypeId} {x y : Operand} {a b : Int} {s : Nat} (h : (hd st.env ops i X.n, opd st.env x, opd st.env y) = (some (.binOp .or xt x y yt, s, gs), some (vD (.int k a)), some (vD (.int k b)))) (next : Nx P X ops dr Q r i st log ⟨gs ++ [(x, vD (.int k a)), (y, vD (.int k b))], [], some s, some (vD (.int k (KS k a b))), [], []⟩) : A4 P X ops dr Q (r + 1) i st log :=
 D9 (CE (t2 h).1) (t2 (t2 h).2).1 (t2 (t2 h).2).2 (T3 _ _ _ _ _ _) rfl next
theorem Hd {k : IntKind} {xt yt : TypeId} {x y : Operand} {a b : Int} {s : Nat} (h : (hd st.env ops i X.n, opd st.env x, opd st.env y) = (some (.binOp .andNot xt x y yt, s, gs), some (vD (.int k a)), some (vD (.int k b)))) (next : Nx P X ops dr Q r i st log ⟨gs ++ [(x, vD (.int k a)), (y, vD (.int k b))], [], some s, some (vD (.int k (Ce k a b))), [], []⟩) : A4 P X ops dr Q (r + 1) i st log :=
 D9 (CE (t2 h).1) (t2 (t2 h).2).1 (t2 (t2 h).2).2 (Py _ _ _ _ _ _) rfl next
theorem Ib {k k' : IntKind} {xt yt : TypeId} {x y : Operand} {a b : Int} {s : Nat} (h : (hd st.env ops i X.n, opd st.env x, opd st.env y) = (some (.binOp .shl xt x y yt, s, gs), some (vD (.int k a)), some (vD (.int k' b)))) (hc : 0 ≤ b) (next : Nx P X ops dr Q r i st log ⟨gs ++ [(x, vD (.int k a)), (y, vD (.int k' b))], [], some s, some (vD (.int k (Dm k a b))), [], []⟩) : A4 P X ops dr Q (r + 1) i st log :=
 D9 (CE (t2 h).1) (t2 (t2 h).2).1 (t2 (t2 h).2).2 (R4 _ _ _ _ _ _ _ hc) rfl next
theorem KM {k k' : IntKind} {xt yt : TypeId} {x y : Operand} {a b : Int} {s : Nat} (h : (hd st.env ops i X.n, opd st.env x, opd st.env y) = (some (.binOp .shr xt x y yt, s, gs), some (vD (.int k a)), some (vD (.int k' b)))) (hc : 0 ≤ b) (next : Nx P X ops dr Q r i st log ⟨gs ++ [(x, vD (.int k a)), (y, vD (.int k' b))], [], some s, some (vD (.int k (FM k a b))), [], []⟩) : A4 P X ops dr Q (r + 1) i st log :=
 D9 (CE (t2 h).1) (t2 (t2 h).2).1 (t2 (t2 h).2).2 (S7 _ _ _ _ _ _ _ hc) rfl next
theorem Ch {xt : TypeId} {x : Operand} {b : Bool} {s : Nat} (h : (hd st.env ops i X.n, opd st.env x) = (some (.unOp .not xt x, s, gs), some (bD b))) (next : Nx P X ops dr Q r i st log ⟨gs ++ [(x, bD b)], [], some s, some (vD (.bool (!b))), [], []⟩) : A4 P X ops dr Q (r + 1) i st log :=
 Wj (CE (t2 h).1) (t2 h).2 (TL _) rfl next
theorem Kj {xt yt : TypeId} {k k' : IntKind} {x : Operand} {a : Int} {s : Nat} (hs : (P.underlying xt).isSome = true) (ht : Nt P yt k = true) (h : (hd st.env ops i X.n, opd st.env x) = (some (.convert xt yt x, s, gs), some (vD (.int k' a)))) (next : Nx P X ops dr Q r i st log ⟨gs ++ [(x, vD (.int k' a))], [], some s, some (vD (.int k (k.wrap a))), [], []⟩) : A4 P X ops dr Q (r + 1) i st log :=
 TP (CE (t2 h).1) (t2 h).2 (QT hs ht _ _) rfl next
theorem AF {α : Type} {f : α → List T} {xs : List α} {x : Operand} {s : Nat} {t el : TypeId} (ht : sliceB P t el = true) (h : (hd st.env ops i X.n, opd st.env x) = (some (.call ⟨.builtin .len, #[x], #[t]⟩, s, gs), some (one (.sl (xs.map f))))) (next : Nx P X ops dr Q r i st log ⟨gs ++ [(x, one (.sl (xs.map f)))], [], some s, some (vD (.int .i64 (xs.length : Int))), [], []⟩) : A4 P X ops dr Q (r + 1) i st log :=
 TI (CE (t2 h).1) (t2 h).2 (.sl _) trivial (vP _) ht next
theorem Pp {α : Type} {f : α → List T} {xs : List α} {x : Operand} {s b e : Nat} {t el : TypeId} (ht : sliceB P t el = true) (h : (hd st.env ops i X.n, opd st.env x, st.bx b) = (some (.call ⟨.builtin .len, #[x], #[t]⟩, s, gs), some (.e (.one (.own b))), some (.vec e (xs.map f)))) (next : Nx P X ops dr Q r i st log ⟨gs ++ [(x, .e (.one (.own b)))], [(b, .vec e (xs.map f))], some s, some (vD (.int .i64 (xs.length : Int))), [], []⟩) : A4 P X ops dr Q (r + 1) i st log :=
 TI (CE (t2 h).1) (t2 (t2 h).2).1 (.own _ _ _) ⟨(t2 (t2 h).2).2, trivial⟩ (vP _) ht next
theorem Bf {t : TypeId} {s : Nat} {z : Value} {zs : List Value} {pl : List (Nat × Nat)} {cells : List C} {parts : Array (Nat × Operand)} {ps : List (Nat × Operand × E)} (hz : Da P t = some z) (hpl : Ge P t = some pl) (h : (hd st.env ops i X.n, Ut st.env parts.toList, z.cells.toList, zs.all FH, Je (pl[·]?) (zs.map fun v => C.pure (T.of v)) (ps.map fun p => (p.1, p.2.2))) = (some (.build t parts, s, gs), some ps, zs, true, some cells)) (next : Nx P X ops dr Q r i st log ⟨gs ++ FL ps, [], some s, some (.e (.agg cells)), [], []⟩) : A4 P X ops dr Q (r + 1) i st log :=
 have q := Rj (t2 (t2 h).2).1
 SY ps (CE (t2 h).1) (by rw [← q.1]) q.2 hz (t2 (t2 (t2 h).2).2).1 (t2 (t2 (t2 (t2 h).2).2).2).1 hpl (t2 (t2 (t2 (t2 h).2).2).2).2 next
theorem Fg {t el : TypeId} {s n e : Nat} {z : Value} {rows : List (List T)} {parts : Array (Nat × Operand)} {ps : List (Nat × Operand × E)} (ht : sliceB P t el = true) (he : F5 P el e = true) (hz : Da P el = some z) (h : (hd st.env ops i X.n, Ut st.env parts.toList, st.bx s, Sd 0 ps, ps.length, zB7 (n * e) 16777216, (ps.map fun p => (p.1, p.2.2)).mapM (fun p => p.2.ts), rows.all (fun row => row.length == e)) = (some (.buildSlice t n parts, s, gs), some ps, none, true, n, true, some rows, true)) (next : Nx P X ops dr Q r i st log ⟨gs ++ FL ps, [], some s, some (.e (.one (.own s))), [(s, .vec e rows)], [s]⟩) : A4 P X ops dr Q (r + 1) i st log :=
 have q := Rj (t2 (t2 h).2).1
 have g := (t2 (t2 (t2 h).2).2).2
 NQ ps (CE (t2 h).1) (by rw [← q.1]) q.2 (t2 (t2 (t2 h).2).2).1 ht he hz (PS (t2 g).1) (t2 (t2 g).2).1 (vN (t2 (t2 (t2 g).2).2).1) (t2 (t2 (t2 (t2 g).2).2).2).1 (t2 (t2 (t2 (t2 g).2).2).2).2 next
theorem Av {f s : Nat} {xs : List Operand} {ds0 ds : List D} {rv : List (Nat × List (List T))} {res : D} {ts : Array TypeId} (ns : List Nat) (hc : Ap P f ds rv res) (hf : Az P f = true) (h : (hd st.env ops i X.n, RN st.env xs, ds0.map D.nrm, ds.all Ol, ns.length, GV ns && (ns.all fun n => !By n), ns.all (fun n => V5 (st.bx n)), res.names.all (fun b => decide (b < rv.length))) = (some (.call ⟨.value (.func f), xs.toArray, ts⟩, s, gs), some ds0, ds, true, rv.length, true, true, true)) (next : Nx P X ops dr Q r i st log ⟨gs ++ F0 xs ds0, [], some s, some (res.ren (nm ns)), Hf ns rv, ns⟩) : A4 P X ops dr Q (r + 1) i st log :=
 have q := NX (t2 (t2 h).2).1
 have g := (t2 (t2 (t2 h).2).2).2
 TR ns hc (CE (t2 h).1) hf q.1 q.2 (t2 (t2 (t2 h).2).2).1 (t2 g).1 (t2 (t2 g).2).1 (MC (t2 (t2 (t2 g).2).2).1) (M5 (t2 (t2 (t2 (t2 g).2).2).2).1) (t2 (t2 (t2 (t2 g).2).2).2).2 next
theorem Hn {f s : Nat} {xs : List Operand} {ds0 ds : List D} {rv : List (Nat × List (List T))} {res : D} {ts : Array TypeId} {bs : List (Nat × Bl)} (ns lb : List Nat) (hc : Ap P f ds rv res) (hf : Az P f = true) (hfv : OJ rv) (h : (hd st.env ops i X.n, RN st.env xs, V2 st.bx lb, ds0.map (fun d => (d.lend bs).nrm), ds.all Ol, ns.length, GV ns && (ns.all fun n => !By n), ns.all (fun n => V5 (st.bx n)), res.flat, res.names.all (fun b => decide (b < rv.length))) = (some (.call ⟨.value (.func f), xs.toArray, ts⟩, s, gs), some ds0, some bs, ds, true, rv.length, true, true, true, true)) (next : Nx P X ops dr Q r i st log ⟨gs ++ F0 xs ds0, bs, some s, some (res.ren (nm ns)), Hf ns rv, ns⟩) : A4 P X ops dr Q (r + 1) i st log :=
 have q := NX (t2 (t2 h).2).1
 have g := (t2 (t2 (t2 h).2).2).2
 have g2 := (t2 (t2 (t2 g).2).2).2
 Sy ns bs hc (CE (t2 h).1) hf q.1 q.2 (RA (t2 (t2 (t2 h).2).2).1) (t2 g).1 (t2 (t2 g).2).1 (t2 (t2 (t2 g).2).2).1 (MC (t2 g2).1) (M5 (t2 (t2 g2).2).1) (t2 (t2 (t2 g2).2).2).1 hfv (t2 (t2 (t2 g2).2).2).2 next
theorem Ke {α : Type} {f : α → List T} {xs : List α} {ys : List α} {x y : Operand} {t t2' el el2 s e bytes b b2 : Nat} {z : Value} (ht : sliceB P t el = true) (ht2 : sliceB P t2' el2 = true) (he : F5 P el e = true) (hby : FX P el bytes = true) (hz : Da P el = some z) (hlim : xs.length + ys.length ≤ GA) (h : (hd st.env ops i X.n, opd st.env x, st.bx b, opd st.env y, st.bx b2, st.bx s, z.cells.size, zB7 bytes 4096, [b].all (fun b => !By b)) = (some (.call ⟨.builtin .append, #[x, y], #[t, t2']⟩, s, gs), some (.e (.one (.own b))), some (.vec e (xs.map f)), some (.e (.one (.own b2))), some (.vec e (ys.map f)), none, e, true, true)) (next : Nx P X ops dr Q r i st log ⟨gs ++ [(x, .e (.one (.own b))), (y, .e (.one (.own b2)))], [(b, .vec e (xs.map f))] ++ [(b2, .vec e (ys.map f))], some s, some (.e (.one (.own s))), (s, .vec e ((xs ++ ys).map f)) :: Ia [b], [s]⟩) : A4 P X ops dr Q (r + 1) i st log :=
 N5 (CE (t2 h).1) (t2 (t2 h).2).1 (.own _ _ _) ⟨(t2 (t2 (t2 h).2).2).1, trivial⟩ (t2 (t2 (t2 (t2 h).2).2).2).1 (.own _ _ _) ⟨(t2 (t2 (t2 (t2 (t2 h).2).2).2).2).1, trivial⟩ (t2 (t2 (t2 (t2 (t2 (t2 h).2).2).2).2).2).1 ht ht2 he hby (vN (t2 (t2 (t2 (t2 (t2 (t2 (t2 (t2 h).2).2).2).2).2).2).2).1) hz (t2 (t2 (t2 (t2 (t2 (t2 (t2 h).2).2).2).2).2).2).1 (by simpa using hlim) (by simp) (t2 (t2 (t2 (t2 (t2 (t2 (t2 (t2 h).2).2).2).2).2).2).2).2 next
theorem Ko {α : Type} {f : α → List T} {xs : List α} {ys : List α} {x y : Operand} {t t2' el el2 s e bytes b : Nat} {z : Value} (ht : sliceB P t el = true) (ht2 : sliceB P t2' el2 = true) (he : F5 P el e = true) (hby : FX P el bytes = true) (hz : Da P el = some z) (hf : ∀ x, (f x).length = e) (hlim : xs.length + ys.length ≤ GA) (h : (hd st.env ops i X.n, opd st.env x, st.bx b, opd st.env y, st.bx s, z.cells.size, zB7 bytes 4096, [b].all (fun b => !By b)) = (some (.call ⟨.builtin .append, #[x, y], #[t, t2']⟩, s, gs), some (.e (.one (.own b))), some (.vec e (xs.map f)), some (one (.sl (ys.map f))), none, e, true, true)) (next : Nx P X ops dr Q r i st log ⟨gs ++ [(x, .e (.one (.own b))), (y, one (.sl (ys.map f)))], [(b, .vec e (xs.map f))] ++ [], some s, some (.e (.one (.own s))), (s, .vec e ((xs ++ ys).map f)) :: Ia [b], [s]⟩) : A4 P X ops dr Q (r + 1) i st log :=
 N5 (CE (t2 h).1) (t2 (t2 h).2).1 (.own _ _ _) ⟨(t2 (t2 (t2 h).2).2).1, trivial⟩ (t2 (t2 (t2 (t2 h).2).2).2).1 (.sl _ _ (Ip hf _)) trivial (t2 (t2 (t2 (t2 (t2 h).2).2).2).2).1 ht ht2 he hby (vN (t2 (t2 (t2 (t2 (t2 (t2 (t2 h).2).2).2).2).2).2).1) hz (t2 (t2 (t2 (t2 (t2 (t2 h).2).2).2).2).2).1 (by simpa using hlim) (by simp) (t2 (t2 (t2 (t2 (t2 (t2 (t2 h).2).2).2).2).2).2).2 next
end run
end Go.Lift
namespace Go.Lift
open Go.RowKit
variable {P : Program}
def Vv (P : Program) : List D → List D → Prop
 | [], [] => True
 | a :: ar, b :: bs => (∀ (w : World) (G : Gh) (v : Value), Fw P w G v a → Fw P w G v b) ∧ Vv P ar bs
 | _, _ => False
theorem Vv.get : ∀ {ar bs : List D}, Vv P ar bs → ar.length = bs.length ∧ ∀ (j : Nat) (b : D), bs[j]? = some b → ∃ a, ar[j]? = some a ∧ ∀ (w : World) (G : Gh) (v : Value), Fw P w G v a → Fw P w G v b
 | [], [], _ => ⟨rfl, fun j b h => by simp at h⟩
 | a :: ar, b :: bs, h => by
  obtain ⟨h1, h2⟩ := Vv.get h.2
  refine ⟨by simp [h1], fun j c hj => ?_⟩
  cases j with
  | zero => simp at hj; subst hj; exact ⟨a, rfl, h.1⟩
  | succ j => obtain ⟨a', g1, g2⟩ := h2 j c (by simpa using hj); exact ⟨a', by simpa using g1, g2⟩
theorem Do.weak {f : FuncId} {ds ds' : List D} {lent : List (Bl × Bl)} {rv : List Bl} {res : D} (h : Do P f ds lent rv res) (hp : Vv P ds' ds) : Do P f ds' lent rv res := by
 intro w G vs h1 hgk h2 h3 h4 hlen hargs
 obtain ⟨g1, g2⟩ := hp.get
 refine h w G vs h1 hgk h2 h3 h4 (by rw [hlen, g1]) fun j d hj => ?_
 obtain ⟨a, e1, e2⟩ := g2 j d hj
 exact e2 w G _ (hargs j a e1)
end Go.Lift
namespace Go.Lift
open Go.RowKit
variable {P : Program} {X : Gg} {ops : Array Oper}
section run
variable {dr : Bool} {Q : St → Prop} {r i : Nat} {st : St} {log : List (Nat × BZ)} {gs : List (Operand × D)}
end run
end Go.Lift
namespace Go.Lift
abbrev iC (x : Int) : C := .pure (.val (.int .i64 x))
abbrev sC (l : List (List T)) : C := .pure (.sl l)
abbrev iD (x : Int) : D := .e (.one (.pure (.val (.int .i64 x))))
abbrev pD (t : T) : D := .e (.one (.pure t))
abbrev oD (c : C) : D := .e (.one c)
theorem tv : True := trivial
end Go.Lift
namespace Go.Lift
open Go.RowKit
variable {P : Program} {X : Gg} {ops : Array Oper}
section run
variable {dr : Bool} {Q : St → Prop} {r i : Nat} {st : St} {log : List (Nat × BZ)} {o : Oper} {gs : List (Operand × D)}
end run
end Go.Lift
namespace Go.Lift
open Go.RowKit
variable {P : Program} {X : Gg} {ops : Array Oper}
def nt (b : Nat) (ns : List Nat) (c : Nat) : Nat := if c = 90900 then b else ns.getD c 0
section run
variable {dr : Bool} {Q : St → Prop} {r i : Nat} {st : St} {log : List (Nat × BZ)} {o : Oper} {gs : List (Operand × D)}
end run
end Go.Lift
namespace Go.Lift
open Go.RowKit
variable {P : Program} {X : Gg} {ops : Array Oper}
end Go.Lift
namespace Go.Lift
open Go.RowKit
variable {P : Program} {X : Gg} {ops : Array Oper}
section run
variable {dr : Bool} {Q : St → Prop} {r i : Nat} {st : St} {log : List (Nat × BZ)} {o : Oper} {gs : List (Operand × D)}
end run
end Go.Lift
namespace Go.Lift
open Go.RowKit
variable {P : Program} {X : Gg} {ops : Array Oper}
section run
variable {dr : Bool} {Q : St → Prop} {r i : Nat} {st : St} {log : List (Nat × BZ)} {o : Oper} {gs : List (Operand × D)}
end run
end Go.Lift
namespace Go.Lift
open Go.RowKit
variable {P : Program} {X : Gg} {ops : Array Oper}
section run
variable {dr : Bool} {Q : St → Prop} {r i : Nat} {st : St} {log : List (Nat × BZ)} {o : Oper} {gs : List (Operand × D)}
end run
end Go.Lift
namespace Go.Lift
open Go.RowKit
variable {P : Program} {X : Gg} {ops : Array Oper}
section run
variable {dr : Bool} {Q : St → Prop} {r i : Nat} {st : St} {log : List (Nat × BZ)} {o : Oper} {gs : List (Operand × D)}
end run
end Go.Lift
namespace Go.Lift
open Go.RowKit
variable {P : Program} {X : Gg}
theorem Be {α : Type} {c : Operand} {x y : Code} {Q : Exit → St → Prop} {st : St} {b : Bool} {e1 e2 : Option α} {v : α} (h : AK b e1 e2 = some v) (ht : e1 = some v → W P X x Q st) (hf : e2 = some v → W P X y Q st) (hc : opd st.env c = some (bD b) := by exact rfl) : W P X (.cond c x y) Q st :=
 TJ hc (fun k => ht (PF k h)) (fun k => hf (PY k h))
theorem CJ {ops : Array Oper} {dr : Bool} {Q : St → Prop} {r i : Nat} {st : St} {log : List (Nat × BZ)} {α : Type} {b : Bool} {e1 e2 : Option α} {v : α} (t : Nat) (h : AK b e1 e2 = some v) (hx : st.env t = some (bD b)) (h1 : e1 = some v → A4 P X ops dr Q r i (St.put st (some t) (some (bD true))) log) (h2 : e2 = some v → A4 P X ops dr Q r i (St.put st (some t) (some (bD false))) log) : A4 P X ops dr Q r i st log :=
 SD hx (fun k => h1 (PF k h)) (fun k => h2 (PY k h))
theorem sn {V R : Type} {J : V → Option R} {r : R} {S : V → St} {s : St} {v : V} {el : List (Nat × D)} {bl : List (Nat × Bl)} (l : List (Nat × Nat)) (h : J v = some r) (e : S v = mk el bl := by exact rfl) (h1 : (Vy s.env el, VC (rn l) s.bx bl) = (U7 (rn l) el, U9 (rn l) bl) := by exact rfl) (h2 : ((GV ((DZ bl).map (rn l)) && Kk (rn l) (DZ bl)) && (MO (DZ bl) el && MK (DZ bl) bl)) = true := by exact rfl) : ∃ v, J v = some r ∧ EZ P X s (S v) :=
 ⟨v, h, e ▸ sm l el bl h1 h2⟩
theorem WL {y : Code} {id : Nat} {ops : Array Oper} {dr : Bool} {Q : Exit → St → Prop} {st : St} {n : Nat} (hm : P.follows .mixedOrders = true) (hn : ops.size = n)
  (h : A4 P X ops dr (fun st' => W P X y Q st') n 0 st []) : W P X (.seq (.region id ops dr) y) Q st :=
 AQ (Aj hm hn h)
theorem BP {G : Prop} {α β : Type} {xs : List α} {i : Int} {f : α → Option β} {r : β} (h : (Bt xs i).bind f = some r) (k : ∀ x, 0 ≤ i → xs[i.toNat]? = some x → f x = some r → G) : G := by
 obtain ⟨x, a, b, c⟩ := Rp h
 exact k x a b c
theorem B1 {G : Prop} {α β : Type} {x : Option α} {f : α → Option β} {r : β} (h : x.bind f = some r) (k : ∀ a, x = some a → f a = some r → G) : G := by
 obtain ⟨a, b, c⟩ := bind_some h
 exact k a b c
theorem Hz {G : Prop} {β : Type} {p : Prop} [Decidable p] {f : Unit → Option β} {r : β} (h : (EL p).bind f = some r) (k : p → f () = some r → G) : G := k (GW h).1 (GW h).2
section
variable {ops : Array Oper} {dr : Bool} {Q : St → Prop} {r i : Nat} {st : St} {log : List (Nat × BZ)} {gs : List (Operand × D)}
theorem qe {x : Operand} {d : D} {s : Nat} (h : (hd st.env ops i X.n, opd st.env x) = (some (.assign x, s, gs), some d)) (k : Q (BZ.upd ⟨gs ++ [(x, d)], [], some s, some d, [], []⟩ st)) : A4 P X ops false Q (0 + 1) i st log :=
 qa h (Ab k)
def RH (n : Nat) (ops : Array Oper) (i : Nat) (st : St) : Option BZ :=
 match (match T6 ops i n with
  | some (_, s, t, want) => (match st.env t with
   | some (.e (.one (.pure (.val (.bool b))))) => (match b, want with
    | true, false => some (s, t, want)
    | false, true => some (s, t, want)
    | _, _ => none)
   | _ => none)
  | none => none) with
 | some (s, t, want) => some ⟨[(.tmp t, bD (!want))], [], some s, some uD, [], []⟩
 | none => match hd st.env ops i n with
  | some (.move x, s, gs) => (opd st.env x).map fun d => ⟨gs ++ [(x, d)], [], some s, some d, [], []⟩
  | _ => none
def SB (n : Nat) (ops : Array Oper) : Nat → Nat → St → List (Nat × BZ) → Option (St × List (Nat × BZ))
 | 0, _, st, log => some (st, log)
 | k + 1, i, st, log => match RH n ops i st with
  | none => none
  | some l => SB n ops k (i + 1) (BZ.upd l st) ((i, l) :: log)
theorem QQ {l : BZ} (h : RH X.n ops i st = some l) (next : Nx P X ops dr Q r i st log l) : A4 P X ops dr Q (r + 1) i st log := by
 unfold RH at h
 split at h
 ·rename_i s t want hh
  split at hh
  ·rename_i j s' t' want' ha
   split at hh
   ·rename_i b hb
    split at hh
    ·cases hh; cases h; exact qn (want := false) (by rw [ha, hb]; rfl) next
    ·cases hh; cases h; exact qn (want := true) (by rw [ha, hb]; rfl) next
    ·cases hh
   ·cases hh
  ·cases hh
 ·split at h
  ·rename_i x s gs' hh
   cases hd' : opd st.env x with
   | none => rw [hd'] at h; cases h
   | some d =>
    rw [hd'] at h
    cases h
    exact qm (by rw [hh, hd']) next
  ·cases h
theorem qw (k : Nat) {st' : St} {log' : List (Nat × BZ)} (h : SB X.n ops k i st log = some (st', log')) (next : A4 P X ops dr Q r (i + k) st' log') : A4 P X ops dr Q (r + k) i st log := by
 induction k generalizing i st log with
 | zero => cases h; exact next
 | succ k ih =>
  rw [SB] at h
  split at h
  ·cases h
  ·rename_i l hl
   exact QQ hl (ih h (by rwa [zC0, Nat.add_comm 1]))
end
theorem cw {f n : Nat} {fn : Func} {c : Code} {args : List D} {rv : List (Nat × List (List T))} {res : D} {rs : List ResultVar} (hf : P.funcs[f]? = some fn)
  (h : ∀ (w0 : World) (S0 : Nat → Prop), W P ⟨w0, S0, n, G0 S0⟩ c (fun e st => match e with | .normal | .ret => QZ P rs st rv res | _ => False) (Uc args))
  (hb : fn.body = some c := by exact rfl) (hn : fn.ntmps = n := by exact rfl) (hrs : fn.results.toList = rs := by exact rfl) (hl : args.length ≤ n := by exact GQ rfl) (hn9 : n ≤ 90000 := by exact GQ rfl) (hpub : args.all Ol = true := by exact rfl) : Ap P f args rv res :=
 Ms hf hb hn hrs hl hn9 hpub h
theorem tm {st : St} {t : Nat} {x : E} (h : st.env t = some (.e x) := by exact rfl) : U6 P st [.tmp t] [x] := ⟨.tmp _ _ h, trivial⟩
end Go.Lift
namespace Go.Lift
open Go.RowKit Go.Shelf
def Uu {α : Type} (c : α → α → Int) (x y : α) : Prop := c x y < 0 ∧ 0 < c y x
structure RB {α : Type} (c : α → α → Int) (M : α → Prop) : Prop where
 self : ∀ x, M x → c x x = 0
 tri : ∀ x y, M x → M y → x = y ∨ Uu c x y ∨ Uu c y x
 trans : ∀ x y z, M x → M y → M z → Uu c x y → Uu c y z → Uu c x z
namespace RB
variable {α : Type} {c : α → α → Int} {M : α → Prop}
theorem lt (O : RB c M) {x y : α} (hx : M x) (hy : M y) : c x y < 0 ↔ Uu c x y := by
 refine ⟨fun h => ?_, fun h => h.1⟩
 rcases O.tri x y hx hy with e | e | e
 ·subst e; have := O.self x hx; omega
 ·exact e
 ·have := e.2; omega
end RB
section
variable {P : Program} {ρ : Ren} {α : Type}
end
end Go.Lift
namespace Go.Lift
open Go.RowKit Go.Shelf
section
variable {α : Type}
end
end Go.Lift
namespace Go.Lift
open Option renaming bind_some → oS
open Go.RowKit Go.ChangeShapes Go.WideShapes
variable {P : Program} {X : Gg} {ops : Array Oper}
section run
variable {dr : Bool} {Q : St → Prop} {r i : Nat} {st : St} {log : List (Nat × BZ)} {o : Oper} {gs : List (Operand × D)}
theorem FR {xt : TypeId} (x y : Operand) (a b : ByteArray) (h : a.size + b.size ≤ 9223372036854775807) : ET P .add xt x y (.string a) (.string b) (.string (a ++ b)) := fun w => by
 have := run_string_add_sum (P := P) (w := w) a b h
 simp [binOp_string_add, eqGuard, this]
theorem Ln {xt : TypeId} (x y : Operand) (a b : ByteArray) : ET P .eql xt x y (.string a) (.string b) (.bool (a.toList == b.toList)) := fun w => by simp [eqGuard, binOp_string_eql]
end run
theorem TY {W : World} (h : ∀ x, x ∈ S3 → ∀ g, P.globalNamed x.1 = some g → Lib.TabIs P W x.1 x.2.1 x.2.2) : RY P W (O7 W) := fun x hx g hg => by
 have h1 := h x hx g hg
 refine ⟨?_, h1⟩
 unfold Lib.TabIs World.var? at h1
 rw [hg, oS] at h1
 show g < W.heap.size
 split at h1
 ·rename_i e; exact (zE4.1 e).1
 ·cases h1
theorem Oa {H : Type} {enc : TypeId × Value → H} {C : Checked} {os : Os} {f : FuncId} {fn : Func} {s : ChangeSpec} {conds : List PathCond} {tb : TypeId} {d : Nat} {laid : List (String × DataW Unit)}
  (own : ownKnob C.prog.godebug = none) (started : os.Started) (noInit : C.prog.inits.idxOf? f = none) (hfn : C.prog.funcs[f]? = some fn)
  (witness : ∃ (w : World) (tape : Tape) (i : Input), w.os = os ∧ (w.forCall tape i).Shaped C.prog ∧ i.vars = [] ∧ Input.okWide C.prog (w.forCall tape i) .any w.heap.size f i ∧
   ((s.pre enc C.prog fn conds false (w.forCall tape i).memory i.args ∧ laidMetH C.prog laid (w.forCall tape i).memory) ∧ sizedMet enc C.prog fn (OpenSpec.ofChange s) false (w.forCall tape i).memory i.args) ∧ ({} : Assume).holds C.prog (lone (Frame.enter C.prog f i.args .normal) [] (w.forCall tape i)))
  (hv : s.vars = []) (hs : ∀ ds : List (DataW H), ds.length = fn.params.toList.length → s.fn H (ds ++ []) = { results := [.lit (.bool true)], args := ds })
  (hres : fn.resultTypes = #[tb]) (htb : C.prog.underlying tb = some .bool) (hl : laidOutB C.prog = true)
  (hread : (fn.params.toList.all fun t => C.prog.readableRec t && decide (t < C.prog.types.size)) = true) (hplain : (fn.params.toList.all (Hu C.prog d)) = true)
  (law : ∀ Ds, HY C.prog d fn.params.toList Ds → Ap C.prog f Ds [] (.e (.one (.pure (.val (.bool true))))))
  (hp : (laid.all fun x => x.2.handleName?.isNone) = true) (hgk : ∀ W, laidMet C.prog laid W → RY C.prog W (O7 W)) :
  ReturnsInHanded {} C os f .any (fun w args => (s.pre enc C.prog fn conds false w args ∧ laidMetH C.prog laid w) ∧ sizedMet enc C.prog fn (OpenSpec.ofChange s) false w args) (s.post enc C.prog fn false true false false) := by
 refine returnsInHanded_of_change_and (X := fun w _ => laidMetH C.prog laid w) (fun _ _ _ hh h => by rw [MakeChecks.laidMetH_plain _ _ _ hp] at h ⊢; exact h.of_heap hh) own started noInit hfn witness ?_
 intro W base args ds gs before hval hW _ _ hL _
 rw [MakeChecks.laidMetH_plain _ _ _ hp] at hL
 have hW' := hW
 obtain ⟨p, q, hA, hV, rfl, _, _⟩ := hW
 rw [hv] at hV
 obtain ⟨rfl, rfl⟩ := trodVars_none hV
 obtain ⟨Ds, h1, h2, h3, h4⟩ := PT hplain (fun j t v hj hvj => hval j t v (by simpa using hj) (by simpa using hvj)) hA
 have hlt : ∀ x ∈ p, x.block < W.heap.size := fun x hx => hW'.lt x (by simp [hx])
 refine (law Ds h1 W (O7 W) args (fun β h => h) (hgk W hL) (by simpa using h2) ?_).mono ?_
 ·intro j x hj
  obtain ⟨v, g1, g2⟩ := h4 j x hj
  have : Au args j = v := by unfold Au; rw [show args[j]? = some v from by simpa using g1]; rfl
  rw [this]; exact g2
 ·rintro e W' ⟨v, G', rfl, hb, _, _, hr, _⟩
  have hvb : v = .bool true := by
   have h5 : Cj W' G'.S v (.val (.bool true)) := hr
   cases h5; rfl
  subst hvb
  refine ⟨_, rfl, ds, [], p ++ [], [], p, [], hW', ?_, ?_, ?_, hb.frame _, fun h => by cases h⟩
  ·rw [hs ds h3, hres]
   exact trodAll_mk1 (shut_bool htb true)
  ·rw [hs ds h3]
   exact Jd hl hb.toBelow hread hA hlt
  ·rw [hs ds h3, hv]
   rfl
end Go.Lift
namespace Go.Lift
open Go.RowKit Go.Shelf
def Mv (n : Int) : Option ByteArray := if -9223372036854775808 ≤ n ∧ n ≤ 9223372036854775807 then some ⟨(Lib.itoa n).toArray⟩ else none
theorem TM {P : Program} {ρ : Ren} (L : Go.Proofs.LaysM.n171 P ρ) {g : Nat} (hg : P.globalNamed "internal/strconv.uint64pow10" = some g) {n : Int} {r : ByteArray} (h : Mv n = some r) :
  Ap P (ρ.f 171) [.e (.one (.pure (.val (.int .i64 n))))] [] (.e (.one (.pure (.val (.string r))))) := by
 intro w S vs hS hgk hlen hrd
 have h0 : Cj w S (Au vs 0) (.val (.int .i64 n)) := hrd 0 _ rfl
 have hv : Au vs 0 = .int .i64 n := CN h0
 have hvs : vs = #[.int .i64 n] := by
  have h2 : vs.size = 1 := hlen
  apply Array.ext (by simp [h2])
  intro i h1 _
  match i, h1 with
  | 0, h1 => rw [← hv]; simp [Au, h1]
  | i + 1, h1 => omega
 unfold Mv at h
 split at h
 ·rename_i hb
  cases h
  have ht : Lib.TabIs P w "internal/strconv.uint64pow10" .u64 Lib.pow10Tab := (hgk ("internal/strconv.uint64pow10", .u64, R9) (by simp [S3]) g hg).2
  rw [hvs]
  refine (Go.Proofs.Any.strconv_Itoa L n hb.1 hb.2 w ht).mono ?_
  rintro e w' ⟨rfl, k, os, rfl⟩
  refine ⟨_, G0 S, rfl, ⟨⟨rfl, rfl, rfl, by simp [Go.Sort.grow], fun i hi => ?_⟩, .of (by show w.drawn ≤ w.drawn + k; omega)⟩, fun _ h => h, fun _ h => .inl h, .val _ rfl, fun i x hi => by simp at hi, fun i β hi => by simp at hi, fun i l β hi => by simp at hi⟩
  show (w.heap ++ os)[i]? = _
  rw [zF5, if_pos hi]
 ·cases h
end Go.Lift
namespace Go.Lift
open Go.RowKit
variable {P : Program} {X : Gg}
end Go.Lift
namespace Go.Lift
open Go.RowKit
variable {P : Program} {X : Gg} {ops : Array Oper}
section run
variable {dr : Bool} {Q : St → Prop} {r i : Nat} {st : St} {log : List (Nat × BZ)} {o : Oper} {gs : List (Operand × D)}
end run
end Go.Lift
namespace Go.Lift
open Go.RowKit Go.Shelf
end Go.Lift
namespace Go.Lift
open Go.RowKit Go.Shelf
section
variable {P : Program} {ρ : Ren} {α : Type}
end
end Go.Lift
namespace Go.Lift
open Go.RowKit Go.Shelf
variable {P : Program} {X : Gg} {ops : Array Oper}
theorem MU {st : St} (s : Nat) (d0 d : D) (hs : st.env s = some d0) (hn : d.names = []) (h : ∀ w G v, Fw P w G v d0 → Fw P w G v d) : EZ P X st (St.put st (some s) (some d)) := by
 rintro a w ⟨G, hh⟩
 refine ⟨G, { hh with env := ?_, live := ?_, blk := hh.blk, at_ok := hh.at_ok, at_inj := hh.at_inj, liveB := hh.liveB, nlt := hh.nlt, lent := hh.lent }⟩
 ·intro t d' ht
  simp only [St.put] at ht
  split at ht
  ·rename_i e; cases ht; rw [e]
   exact h w G _ (hh.env s _ hs)
  ·exact hh.env t d' ht
 ·intro t d' ht b hb
  simp only [St.put] at ht
  split at ht
  ·cases ht; rw [hn] at hb; cases hb
  ·exact hh.live t d' ht b hb
theorem Nc {st : St} (s : Nat) (ts : List T) (hs : st.env s = some (.e (.one (.rop ts)))) : EZ P X st (St.put st (some s) (some (one (.rp (some ts))))) :=
 MU s _ _ hs rfl fun w G v h => by
  obtain ⟨β, off, arr, el, fz, rfl, h1, h2, h3, h4⟩ : DM P w G v (.rop ts) := h
  exact Cj.rp β off arr el fz ts h1 h2 h3 h4
theorem Rq {st : St} (s : Nat) (q : Option (List T)) (ts : List T) (hs : st.env s = some (one (.rp q))) (hq : q = some ts) : EZ P X st (St.put st (some s) (some (.e (.one (.rop ts))))) :=
 MU s _ _ hs rfl fun w G v h => by
  subst hq
  have h : Cj w G.S v (.rp (some ts)) := h
  cases h with
  | rp β off arr el fz _ h1 h2 h3 h4 => exact (⟨β, off, arr, el, fz, rfl, h1, h2, h3, h4⟩ : DM P w G _ (.rop ts))
theorem OM {P : Program} {ρ : Ren} (L : Go.Proofs.LaysM.n173 P ρ) {g : Nat} (hg : P.globalNamed "internal/strconv.uint64pow10" = some g) {n : Int} {r : ByteArray} (h : Mv n = some r) :
  Ap P (ρ.f 173) [.e (.one (.pure (.val (.int .i64 n)))), .e (.one (.pure (.val (.int .i64 10))))] [] (.e (.one (.pure (.val (.string r))))) := by
 intro w S vs hS hgk hlen hrd
 have h0 : Cj w S (Au vs 0) (.val (.int .i64 n)) := hrd 0 _ rfl
 have h1 : Cj w S (Au vs 1) (.val (.int .i64 10)) := hrd 1 _ rfl
 have hv : Au vs 0 = .int .i64 n := CN h0
 have hv1 : Au vs 1 = .int .i64 10 := CN h1
 have hvs : vs = #[.int .i64 n, .int .i64 10] := by
  have h2 : vs.size = 2 := hlen
  apply Array.ext (by simp [h2])
  intro i h1 _
  match i, h1 with
  | 0, h1 => rw [← hv]; simp [Au, h1]
  | 1, h1 => rw [← hv1]; simp [Au, h1]
  | i + 2, h1 => omega
 unfold Mv at h
 split at h
 ·rename_i hb
  cases h
  have ht : Lib.TabIs P w "internal/strconv.uint64pow10" .u64 Lib.pow10Tab := (hgk ("internal/strconv.uint64pow10", .u64, R9) (by simp [S3]) g hg).2
  rw [hvs]
  refine (Go.Proofs.Any.strconv_FormatInt_10 L n hb.1 hb.2 w ht).mono ?_
  rintro e w' ⟨rfl, k, os, rfl⟩
  refine ⟨_, G0 S, rfl, ⟨⟨rfl, rfl, rfl, by simp [Go.Sort.grow], fun i hi => ?_⟩, .of (by show w.drawn ≤ w.drawn + k; omega)⟩, fun _ h => h, fun _ h => .inl h, .val _ rfl, fun i x hi => by simp at hi, fun i β hi => by simp at hi, fun i l β hi => by simp at hi⟩
  show (w.heap ++ os)[i]? = _
  rw [zF5, if_pos hi]
 ·cases h
end Go.Lift
namespace Go.Lift
open Option renaming bind_some → oS
open Go.RowKit Go.Shelf
variable {P : Program} {X : Gg} {ops : Array Oper} {dr : Bool} {Q : St → Prop} {r i : Nat} {st : St} {log : List (Nat × BZ)} {gs : List (Operand × D)}
theorem Ot {x : Operand} {s : Nat} {ts : List T} (hat : At st.env ops i X.n (.nilCheck x) s gs) (hx : opd st.env x = some (.e (.one (.rop ts))))
  (next : A4 P X ops dr Q r (i + 1) (BZ.upd ⟨gs ++ [(x, .e (.one (.rop ts)))], [], some s, some (.e (.one (.rop ts))), [], []⟩ st) ((i, ⟨gs ++ [(x, .e (.one (.rop ts)))], [], some s, some (.e (.one (.rop ts))), [], []⟩) :: log)) : A4 P X ops dr Q (r + 1) i st log := by
 obtain ⟨o, ho, hop, hd, hn, hg, hgp⟩ := hat.out
 refine A4.step next ⟨Ak.2 ⟨hgp, hx, trivial⟩, trivial, trivial⟩ (LR.value ho hg rfl hd.symm (CS hd hn) ?_)
 intro G st a w hs hpre
 obtain ⟨hx, _⟩ := (Ak.1 hpre.r).2
 obtain ⟨β, k, arr, el, fz, hv, h1⟩ : DM P w G (a.eval x) (.rop ts) := hs.opd hx
 refine ⟨.pointer (some ⟨β, k, none⟩), w, G, ?_, hs, ?_⟩
 ·simp only [execOp, hop, hv]; rfl
 ·rintro d ⟨⟩
  exact ⟨⟨β, k, arr, el, fz, rfl, h1⟩, fun b hb => by cases hb⟩
def RW (P : Program) (t n el : Nat) : Bool := match P.underlying t with | some (.array m e) => m == n && e == el | _ => false
theorem Pz {t n el : Nat} (h : RW P t n el = true) : P.underlying t = some (.array n el) := by
 unfold RW at h
 split at h
 ·rename_i m e hu
  simp only [uU, beq_iff_eq] at h
  rw [hu, h.1, h.2]
 ·cases h
theorem RL {t n el e : Nat} {s : Nat} {z : Value} {zs : List Value} {cells : List C} {parts : Array (Nat × Operand)} (ps : List (Nat × Operand × E)) (hat : At st.env ops i X.n (.build t parts) s gs) (hps : parts = (ps.map fun p => (p.1, p.2.1)).toArray)
  (hx : DP st.env (FL ps)) (hz : Da P t = some z) (hzs : z.cells.toList = zs) (h1 : zs.all FH = true) (ha : RW P t n el = true) (he : F5 P el e = true) (hf : Je (fun i => some (i * e, e)) (zs.map fun v => C.pure (T.of v)) (ps.map fun p => (p.1, p.2.2)) = some cells)
  (next : A4 P X ops dr Q r (i + 1) (BZ.upd ⟨gs ++ FL ps, [], some s, some (.e (.agg cells)), [], []⟩ st) ((i, ⟨gs ++ FL ps, [], some s, some (.e (.agg cells)), [], []⟩) :: log)) : A4 P X ops dr Q (r + 1) i st log := by
 obtain ⟨o, ho, hop, hd, hn, hg, hgp⟩ := hat.out
 refine A4.step next ⟨Ak.2 ⟨hgp, hx⟩, trivial, trivial⟩ (LR.value ho hg rfl hd.symm (CS hd hn) ?_)
 intro G st a w hs hpre
 have hx := (Ak.1 hpre.r).2
 subst hzs
 have hpr := HR hs hx
 obtain ⟨arr', r1, r2, r3⟩ := Kh (P := P) (w := w) (G := G) (fun i => some (i * e, e)) (ps.map fun p => (p.1, p.2.2)) (ps.map fun p => (p.1, a.eval p.2.1)) _ cells z.cells (by simp) (fun j c hj => Lj h1 j c hj) (by simp) (fun j p v hp hv => ⟨(hpr j p v hp hv).1, (hpr j p v hp hv).2.1⟩) hf
 refine ⟨.agg arr', w, G, ?_, hs, ?_⟩
 ·simp only [execOp, hop, hps, Iq]
  refine Ag (run_build w t _ arr' ?_) rfl
  unfold Da at hz
  cases hit : P.info? t with
  | none => rw [hit] at hz; cases hz
  | some it =>
   rw [hit] at hz
   simp only [oS] at hz
   unfold F5 at he
   cases hie : P.info? el with
   | none => rw [hie] at he; cases he
   | some ie =>
    rw [hie] at he
    have he' : ie.size = e := by simpa using he
    unfold Program.built
    rw [hit, Pz ha]
    simp only [hz, hie, he']
    simpa using r1
 ·rintro d ⟨⟩
  refine ⟨⟨arr', rfl, r2, r3⟩, fun b hb => ?_⟩
  rcases Im _ hf hb with h | ⟨p, h2, h3⟩
  ·rw [Ki] at h; cases h
  ·obtain ⟨j, hj⟩ := vI.1 h2
   have hlt := AC hj
   simp only [vP] at hlt
   exact (hpr j p ((ps.map fun p => (p.1, a.eval p.2.1))[j]'(by simpa using hlt)) hj (by simp [hlt])).2.2 b h3
theorem QO {x y : Operand} {s n el t : Nat} {ts : List T} {u : T} {k : IntKind} {m : Int} (hat : At st.env ops i X.n (.indexAddr t x y) s gs)
  (hx : opd st.env x = some (.e (.one (.rop ts)))) (hy : opd st.env y = some (vD (.int k m))) (ht : RW P t n el = true) (hz : F5 P el 1 = true) (hl : ts.length = n) (h0 : 0 ≤ m) (hu : ts[m.toNat]? = some u)
  (next : A4 P X ops dr Q r (i + 1) (BZ.upd ⟨gs ++ [(x, .e (.one (.rop ts))), (y, vD (.int k m))], [], some s, some (.e (.one (.rop [u]))), [], []⟩ st) ((i, ⟨gs ++ [(x, .e (.one (.rop ts))), (y, vD (.int k m))], [], some s, some (.e (.one (.rop [u]))), [], []⟩) :: log)) : A4 P X ops dr Q (r + 1) i st log := by
 obtain ⟨o, ho, hop, hd, hn, hg, hgp⟩ := hat.out
 refine A4.step next ⟨Ak.2 ⟨hgp, hx, hy, trivial⟩, trivial, trivial⟩ (LR.value ho hg rfl hd.symm (CS hd hn) ?_)
 intro G st a w hs hpre
 obtain ⟨hx, hy, _⟩ := (Ak.1 hpre.r).2
 obtain ⟨β, off, arr, el', fz, hv, h1, h2, h3, h4⟩ : DM P w G (a.eval x) (.rop ts) := hs.opd hx
 have hY : a.eval y = .int k m := CN (hs.opd hy : Cj w G.S (a.eval y) (.val _))
 have hlt := AC hu
 refine ⟨.pointer (some ⟨β, off + m.toNat * 1, none⟩), w, G, ?_, hs, ?_⟩
 ·simp only [execOp, hop, hv, hY]
  refine Ag (a := .pointer (some ⟨β, off + m.toNat * 1, none⟩)) (w1 := w) ?_ rfl
  unfold Instr.indexAt
  refine Ag (a := (k, m)) (w1 := w) rfl ?_
  refine Ag (AD (Pz ht) w) ?_
  have hb : 0 ≤ m ∧ m < (n : Int) := ⟨h0, by omega⟩
  refine Ag (a := ⟨β, off, none⟩) (w1 := w) rfl ?_
  refine Ag (a := ((some ⟨β, off, none⟩ : Option Addr), n, el)) (w1 := w) rfl ?_
  refine Ag (AD (Pz ht) w) ?_
  simp only [hb, and_self, if_true]
  refine Ag (DL hz w) ?_
  rw [Addr.add_mk]; rfl
 ·rintro d ⟨⟩
  refine ⟨⟨β, off + m.toNat * 1, arr, el', fz, rfl, h1, h2, by simp; omega, fun j u' hj => ?_⟩, fun b hb => by cases hb⟩
  cases j with
  | zero =>
   cases hj
   have := h4 _ u hu
   simpa using this
  | succ j => simp at hj
theorem O4 {t : Nat} (h : Kp P t = true) : P.underlying t = some .string := by
 unfold Kp at h
 split at h
 ·assumption
 ·cases h
theorem Ka {x : Operand} {b : ByteArray} {s t : Nat} (hat : At st.env ops i X.n (.call ⟨.builtin .len, #[x], #[t]⟩) s gs)
  (hx : opd st.env x = some (vD (.string b))) (ht : Kp P t = true)
  (next : A4 P X ops dr Q r (i + 1) (BZ.upd ⟨gs ++ [(x, vD (.string b))], [], some s, some (vD (.int .i64 (b.size : Int))), [], []⟩ st) ((i, ⟨gs ++ [(x, vD (.string b))], [], some s, some (vD (.int .i64 (b.size : Int))), [], []⟩) :: log)) : A4 P X ops dr Q (r + 1) i st log := by
 obtain ⟨o, ho, hop, hd, hn, hg, hgp⟩ := hat.out
 refine A4.step next ⟨Ak.2 ⟨hgp, hx, trivial⟩, trivial, trivial⟩ (LR.value ho hg rfl hd.symm (CS hd hn) ?_)
 intro G st a w hs hpre
 obtain ⟨hx, _⟩ := (Ak.1 hpre.r).2
 have hX : a.eval x = .string b := CN (hs.opd hx : Cj w G.S (a.eval x) (.val _))
 refine ⟨.int .i64 b.size, w, G, ?_, hs, ?_⟩
 ·simp only [execOp, hop]
  refine Gm fun cs => ?_
  simp only [zD5, vT, zE6, builtin, hX]
  refine Ag (a := .int .i64 b.size) (w1 := w) ?_ rfl
  unfold Builtin.len_
  refine Ag (AD (O4 ht) w) ?_
  rfl
 ·rintro d ⟨⟩
  exact ⟨.val _ rfl, fun b hb => by cases hb⟩
theorem J4 {G : Gh} {st : St} {a : Act} {w : World} (hs : Cu P X G st a w) {lo hi : Option Operand} {l h len : Nat} {rl rh : List (Operand × D)} (hlo : OW lo 0 l rl) (hhi : OW hi len h rh) (h1 : DP st.env rl) (h2 : DP st.env rh) (hlh : l ≤ h) (hhc : h ≤ len) :
  (Instr.sliceBounds false len len (lo.map a.eval) (hi.map a.eval) none).run P w = .ok (l, h, len) w := by
 unfold Instr.sliceBounds
 refine Ag (a := len) (w1 := w) rfl ?_
 have low : ∀ (h : Nat), l ≤ h → ((match lo.map a.eval with
      | some v => do
       let l ← Instr.sliceBound v h (if (none : Option Value).isSome = true then BoundsCode.slice3C else BoundsCode.sliceB)
       pure (l, h, len)
      | none => do
       let l ← pure 0
       pure (l, h, len) : Sem (Nat × Nat × Nat))).run P w = .ok (l, h, len) w := fun h hlh => by
  cases hlo with
  | none => rfl
  | some y d k v hv =>
   have : a.eval y = .int k v := CN (hs.opd h1.1 : Cj w G.S (a.eval y) (.val _))
   simp only [zB0, this]
   exact Ag (FN hv hlh w) rfl
 cases hhi with
 | none => exact Ag (w1 := w) rfl (low _ hlh)
 | some y d k v hv =>
  have : a.eval y = .int k v := CN (hs.opd h2.1 : Cj w G.S (a.eval y) (.val _))
  simp only [zB0, this]
  exact Ag (FN hv hhc w) (low _ hlh)
theorem OP {x : Operand} {t s l h : Nat} {lo hi : Option Operand} {rl rh : List (Operand × D)} {b : ByteArray} (hat : At st.env ops i X.n (.slice t x lo hi none) s gs)
  (hx : opd st.env x = some (vD (.string b))) (ht : Kp P t = true) (hlo : OW lo 0 l rl) (hhi : OW hi b.size h rh) (h1 : DP st.env rl) (h2 : DP st.env rh) (hlh : l ≤ h) (hhl : h ≤ b.size)
  (next : A4 P X ops dr Q r (i + 1) (BZ.upd ⟨gs ++ ((x, vD (.string b)) :: (rl ++ rh)), [], some s, some (vD (.string (b.extract l h))), [], []⟩ st) ((i, ⟨gs ++ ((x, vD (.string b)) :: (rl ++ rh)), [], some s, some (vD (.string (b.extract l h))), [], []⟩) :: log)) : A4 P X ops dr Q (r + 1) i st log := by
 obtain ⟨o, ho, hop, hd, hn, hg, hgp⟩ := hat.out
 refine A4.step next ⟨Ak.2 ⟨hgp, hx, Ak.2 ⟨h1, h2⟩⟩, trivial, trivial⟩ (LR.value ho hg rfl hd.symm (CS hd hn) ?_)
 intro G st a w hs hpre
 obtain ⟨hx, h12⟩ := (Ak.1 hpre.r).2
 obtain ⟨h1, h2⟩ := Ak.1 h12
 have hX : a.eval x = .string b := CN (hs.opd hx : Cj w G.S (a.eval x) (.val _))
 refine ⟨.string (b.extract l h), w, G, ?_, hs, ?_⟩
 ·simp only [execOp, hop, hX]
  refine Ag (a := .string (b.extract l h)) (w1 := w) ?_ rfl
  unfold Instr.sliceAt
  refine Ag (AD (O4 ht) w) ?_
  unfold Instr.slice
  refine Ag (AD (O4 ht) w) ?_
  refine Ag (J4 hs hlo hhi h1 h2 hlh hhl) ?_
  rfl
 ·rintro d ⟨⟩
  exact ⟨.val _ rfl, fun b hb => by cases hb⟩
end Go.Lift
namespace Go.Lift
open Go.RowKit Go.Proofs
theorem PI {w : World} {b : Nat} {o : Obj} (h : w.heap[b]? = some o) : b < w.heap.size := (zE4.1 h).1
theorem Q7 {T e : TypeId} {B b : Nat} {bs : List Value} {w w' : World} (h : Lib.IsBuilder T e B b bs w) (hb : Below w.heap.size w w') : Lib.IsBuilder T e B b bs w' := by
 have key : ∀ p, Lib.BuilderAt T e B b p bs w → Lib.BuilderAt T e B b p bs w' := by
  rintro p ⟨h1, v, h2, ⟨h3, h4⟩, h5⟩
  refine ⟨h1, v, by rw [hb.block b (PI h2)]; exact h2, ⟨h3, ?_⟩, h5⟩
  rcases h4 with h4 | ⟨g, cap, cur, k1, k2, k3, k4⟩
  ·exact .inl h4
  ·exact .inr ⟨g, cap, cur, k1, k2, by rw [hb.block g (PI k3)]; exact k3, k4⟩
 exact h.imp (key _) (key _)
end Go.Lift
namespace Go.Lift
def Ar (n : Int) : List T := [.val (.int .i64 n)]
def C1 (n : Int) : List T := [.val (.int .u8 n)]
abbrev zFS (n : Int) : T := .val (.int .i64 n)
abbrev tB (b : Bool) : T := .val (.bool b)
def eB (b : Bool) : List T := [.val (.bool b)]
def eS (s : ByteArray) : List T := [.val (.string s)]
def K5 {α : Type} (f : α → List T) (xs : List α) : List T := [.sl (xs.map f)]
theorem Rl : Us Ar := ⟨by intro x y h; simpa [Ar] using h⟩
theorem Wu : Us eB := ⟨by intro x y h; simpa [eB] using h⟩
theorem Vi {α : Type} {f : α → List T} (h : Us f) : Us (K5 f) := ⟨by intro x y hx; simp only [K5, List.cons.injEq, T.sl.injEq, and_true] at hx; exact PL h.inj _ _ hx⟩
structure AH where
 fa : Int
 fj : Int
 fw : Int
 fM : Bool
 fH : List (List Bool)
 fr : List (List Bool)
def Bw (x : AH) : List T := [.val (.int .i64 x.fa), .val (.int .i64 x.fj), .val (.int .i64 x.fw), .val (.bool x.fM), .sl (x.fH.map (K5 eB)), .sl (x.fr.map (K5 eB))]
structure Aa where
 fb : List Int
 fk : List Int
 fo : List Int
 fd : List AH
def Oy (x : Aa) : List T := [.sl (x.fb.map Ar), .sl (x.fk.map Ar), .sl (x.fo.map Ar), .sl (x.fd.map Bw)]
structure Am where
 fa : Int
 fm : Int
 fp : Int
def AO (x : Am) : List T := [.val (.int .i64 x.fa), .val (.int .i64 x.fm), .val (.int .i64 x.fp)]
theorem Pv : Us AO := ⟨by
 rintro ⟨a1, a2, a3⟩ ⟨b1, b2, b3⟩ h
 simp only [AO, List.cons.injEq, T.val.injEq, Value.int.injEq, and_true, true_and] at h
 obtain ⟨h1, h2, h3⟩ := h
 subst h1
 subst h2
 subst h3
 rfl⟩
structure Ae where
 fi : Int
 fa : Int
 fF : Int
 fD : Int
 fG : Int
 fm : Int
 fy : Int
 fI : Int
 fE : Int
 fp : Int
 fK : Int
def AL (x : Ae) : List T := [.val (.int .i64 x.fi), .val (.int .i64 x.fa), .val (.int .i64 x.fF), .val (.int .i64 x.fD), .val (.int .i64 x.fG), .val (.int .i64 x.fm), .val (.int .i64 x.fy), .val (.int .i64 x.fI), .val (.int .i64 x.fE), .val (.int .i64 x.fp), .val (.int .i64 x.fK)]
structure B0 where
 fc : Aa
 fO : List Int
 fq : List Am
 fN : List Ae
def KV (x : B0) : List T := [.sl (x.fc.fb.map Ar), .sl (x.fc.fk.map Ar), .sl (x.fc.fo.map Ar), .sl (x.fc.fd.map Bw), .sl (x.fO.map Ar), .sl (x.fq.map AO), .sl (x.fN.map AL)]
structure Ac where
 fh : List Int
 ff : List Int
 fg : List Int
def EE (x : Ac) : List T := [.sl (x.fh.map Ar), .sl (x.ff.map Ar), .sl (x.fg.map C1)]
structure Ai where
 fc : Aa
 fq : List Am
 fi : Int
 ft : Int
 fe : Ac
def EQ (x : Ai) : List T := [.sl (x.fc.fb.map Ar), .sl (x.fc.fk.map Ar), .sl (x.fc.fo.map Ar), .sl (x.fc.fd.map Bw), .sl (x.fq.map AO), .val (.int .i64 x.fi), .val (.int .i64 x.ft), .sl (x.fe.fh.map Ar), .sl (x.fe.ff.map Ar), .sl (x.fe.fg.map C1)]
structure BN where
 fA : Int
 fB : Int
 fC : Bool
 fJ : List (Int × Int)
structure AA where
 fi : Int
 fv : Bool
 fu : Bool
 fe : Ac
open IntKind renaming wrap → wI
def CV (_ : Nat) (p0 : Int) (p1 : Int) : Option Bool :=
 A7 (fun (v1 : Bool) =>
  some v1)
 fun j1 =>
 AK ((decide (0 ≤ p0)))
  (j1 (decide (p0 < p1)))
  (j1 false)
def E8 (_ : Nat) (p0 : Int) (p1 : Bool) : Option Bool :=
 A7 (fun (v1 : Bool) =>
  some v1)
 fun j1 =>
 AK ((p0 == 1))
  (j1 true)
  (AK ((p0 == 2))
   (j1 true)
   (AK ((p0 == 3))
    (j1 (!p1))
    (AK ((p0 == 4))
     (j1 (!p1))
     (j1 false))))
def CP (_ : Nat) (p0 : List Bool) (p1 : Int) : Option Bool :=
 some (((p0.length : Int) != p1))
def A3 (N : Nat) (p0 : List (List Bool)) (p1 : (List Bool) → Option Bool) (j1 : Unit → Option Int) : Nat → Int → Option Int
 | 0, _ => none
 | n1 + 1, v1 =>
  AK ((decide (v1 < (p0.length : Int))))
   ((Bt p0 v1).bind fun v4 =>
   (p1 v4).bind fun v5 =>
   AK v5
    (some v1)
    (A3 N p0 p1 j1 n1 (wI .i64 (v1 + 1))))
   (j1 ())
def Cn (N : Nat) (p0 : List (List Bool)) (p1 : (List Bool) → Option Bool) : Option Int :=
 A3 N p0 p1 (fun (_ : Unit) =>
  some ((-1))) N 0
def B3 (N : Nat) (p0 : List (List Bool)) (p1 : (List Bool) → Option Bool) : Option Bool :=
 (Cn N p0 p1).bind fun v1 =>
 some ((decide (0 ≤ v1)))
def DQ (N : Nat) (p0 : List (List Bool)) (p1 : Int) (p2 : Int) : Option Bool :=
 A7 (fun (v1 : Bool) =>
  some v1)
 fun j1 =>
 AK (((p0.length : Int) == p1))
  ((B3 N p0 ((fun (x : List Bool) => CP N x p2))).bind fun v3 =>
  j1 (!v3))
  (j1 false)
def B9 (N : Nat) (p1 : AH) (j19 : Unit → Option Int) : Nat → Int → Option Int
 | 0, _ => none
 | n19 + 1, v19 =>
  AK ((decide (v19 < (p1.fr.length : Int))))
   ((Bt p1.fr v19).bind fun v22 =>
   (Bt v22 v19).bind fun v23 =>
   AK ((!v23))
    (some 1)
    (B9 N p1 j19 n19 (wI .i64 (v19 + 1))))
   (j19 ())
def EN (N : Nat) (p0 : Aa) (p1 : AH) : Option Int :=
 (E8 N p1.fa p1.fM).bind fun v1 =>
 AK ((!v1))
  (some 1)
  (A7 (fun (v3 : Bool) =>
   AK v3
    (some 4)
    ((Bt p0.fb p1.fj).bind fun v8 =>
    A7 (fun (v9 : Bool) =>
     AK v9
      (some 6)
      (B9 N p1 (fun (_ : Unit) =>
       some 0) N 0))
    fun j9 =>
    (Bt p0.fb p1.fw).bind fun v10 =>
    (DQ N p1.fH v8 v10).bind fun v11 =>
    AK ((!v11))
     (j9 true)
     (AK ((p1.fa == 4))
      ((DQ N p1.fr v8 v8).bind fun v14 =>
      AK ((!v14))
       (j9 true)
       (AK ((!((p1.fa == 4))))
        (j9 (decide (0 < (p1.fr.length : Int))))
        (j9 false)))
      (AK ((!((p1.fa == 4))))
       (j9 (decide (0 < (p1.fr.length : Int))))
       (j9 false)))))
  fun j3 =>
  (CV N p1.fj ((p0.fb.length : Int))).bind fun v4 =>
  AK ((!v4))
   (j3 true)
   ((CV N p1.fw ((p0.fb.length : Int))).bind fun v6 =>
   j3 (!v6)))
def Bo (N : Nat) (p0 : Aa) (j7 : Unit → Option Int) : Nat → Int → Option Int
 | 0, _ => none
 | n7 + 1, v7 =>
  AK ((decide (v7 < (p0.fb.length : Int))))
   ((Bt p0.fb v7).bind fun v10 =>
   A7 (fun (v11 : Bool) =>
    AK v11
     (some 7)
     (Bo N p0 j7 n7 (wI .i64 (v7 + 1))))
   fun j11 =>
   AK ((decide (v10 < 1)))
    (j11 true)
    (AK ((decide (6 < v10)))
     (j11 true)
     ((Bt p0.fk v7).bind fun v14 =>
     (CV N v14 v10).bind fun v15 =>
     AK ((!v15))
      (j11 true)
      ((Bt p0.fo v7).bind fun v17 =>
      (CV N v17 v10).bind fun v18 =>
      j11 (!v18)))))
   (j7 ())
def Bj (N : Nat) (p0 : Aa) (j20 : Unit → Option Int) : Nat → Int → Option Int
 | 0, _ => none
 | n20 + 1, v20 =>
  AK ((decide (v20 < (p0.fd.length : Int))))
   ((Bt p0.fd v20).bind fun v23 =>
   (EN N p0 v23).bind fun v24 =>
   AK ((v24 != 0))
    (some v24)
    (Bj N p0 j20 n20 (wI .i64 (v20 + 1))))
   (j20 ())
def BO (N : Nat) (p0 : Aa) : Option Int :=
 A7 (fun (v1 : Bool) =>
  AK v1
   (some 3)
   (A7 (fun (v4 : Bool) =>
    AK v4
     (some 6)
     (Bo N p0 (fun (_ : Unit) =>
      Bj N p0 (fun (_ : Unit) =>
       some 0) N 0) N 0))
   fun j4 =>
   AK (((p0.fk.length : Int) != (p0.fb.length : Int)))
    (j4 true)
    (j4 ((p0.fo.length : Int) != (p0.fb.length : Int)))))
 fun j1 =>
 AK ((decide (6 < (p0.fb.length : Int))))
  (j1 true)
  (j1 (decide (12 < (p0.fd.length : Int))))
def Cd (N : Nat) (p0 : List Int) (p1 : Int → Option Bool) (j1 : Unit → Option Int) : Nat → Int → Option Int
 | 0, _ => none
 | n1 + 1, v1 =>
  AK ((decide (v1 < (p0.length : Int))))
   ((Bt p0 v1).bind fun v4 =>
   (p1 v4).bind fun v5 =>
   AK v5
    (some v1)
    (Cd N p0 p1 j1 n1 (wI .i64 (v1 + 1))))
   (j1 ())
def DE (N : Nat) (p0 : List Int) (p1 : Int → Option Bool) : Option Int :=
 Cd N p0 p1 (fun (_ : Unit) =>
  some ((-1))) N 0
def C5 (N : Nat) (p0 : List Int) (p1 : Int → Option Bool) : Option Bool :=
 (DE N p0 p1).bind fun v1 =>
 some ((decide (0 ≤ v1)))
def Eh (_ : Nat) (p0 : Int) : Option Bool :=
 A7 (fun (v1 : Bool) =>
  some v1)
 fun j1 =>
 AK ((decide (p0 < 1)))
  (j1 true)
  (j1 (decide (4 < p0)))
def F3 (N : Nat) (p0 : Aa) (p1 : List Int) : Option Int :=
 AK (((p1.length : Int) != (p0.fb.length : Int)))
  (some 6)
  ((C5 N p1 ((fun (x : Int) => Eh N x))).bind fun v2 =>
  AK v2
   (some 7)
   (some 0))
def AN (N : Nat) (p0 : List Am) (p1 : Am → Option Bool) (j1 : Unit → Option Int) : Nat → Int → Option Int
 | 0, _ => none
 | n1 + 1, v1 =>
  AK ((decide (v1 < (p0.length : Int))))
   ((Bt p0 v1).bind fun v4 =>
   (p1 v4).bind fun v5 =>
   AK v5
    (some v1)
    (AN N p0 p1 j1 n1 (wI .i64 (v1 + 1))))
   (j1 ())
def Bh (N : Nat) (p0 : List Am) (p1 : Am → Option Bool) : Option Int :=
 AN N p0 p1 (fun (_ : Unit) =>
  some ((-1))) N 0
def A8 (N : Nat) (p0 : List Am) (p1 : Am → Option Bool) : Option Bool :=
 (Bh N p0 p1).bind fun v1 =>
 some ((decide (0 ≤ v1)))
def Db (_ : Nat) (p0 : Am) : Option Bool :=
 some ((p0.fa == 4))
def BS (_ : Nat) (p0 : List Int) : Option ((List Int)) :=
 (EL ((([] : List Int)).length + p0.length ≤ GA)).bind fun _ =>
 some ((([] : List Int)) ++ p0)
def Fe (_ : Nat) (p0 : Int) (p1 : Int) : Option (Int × Int) :=
 some ((wI .u32 ((FM .u64 ((wI .u64 ((wI .u64 p0) * (wI .u64 p1)))) 32))), (wI .u32 ((wI .u64 ((wI .u64 p0) * (wI .u64 p1))))))
def Fl (_ : Nat) (p0 : Int) (p1 : Int) : Option (Int × Int) :=
 some ((wI .u64 ((wI .u64 ((wI .u64 ((FM .u64 p0 32) * (FM .u64 p1 32))) + (FM .u64 ((wI .u64 ((wI .u64 ((FM .u64 p0 32) * (Ft .u64 p1 4294967295))) + (FM .u64 ((wI .u64 ((Ft .u64 p0 4294967295) * (Ft .u64 p1 4294967295)))) 32)))) 32))) + (FM .u64 ((wI .u64 ((Ft .u64 ((wI .u64 ((wI .u64 ((FM .u64 p0 32) * (Ft .u64 p1 4294967295))) + (FM .u64 ((wI .u64 ((Ft .u64 p0 4294967295) * (Ft .u64 p1 4294967295)))) 32)))) 4294967295) + (wI .u64 ((Ft .u64 p0 4294967295) * (FM .u64 p1 32)))))) 32))), (wI .u64 (p0 * p1)))
def F8 (N : Nat) (p0 : Int) (p1 : Int) : Option (Int × Int) :=
 AK false
  ((Fe N ((wI .u32 p0)) ((wI .u32 p1))).bind fun v2 =>
  some ((wI .u64 v2.1), (wI .u64 v2.2)))
  ((Fl N p0 p1).bind fun v3 =>
  some (v3.1, v3.2))
def CK (N : Nat) (j9 : ((List Int)) → Option ((List Int))) : Nat → ((List Int) × Int) → Option ((List Int))
 | 0, _ => none
 | n9 + 1, v9 =>
  AK ((decide (v9.2 < (v9.1.length : Int))))
   ((EL ((0 : Int) ≤ v9.2 ∧ (v9.2).toNat ≤ v9.1.length ∧ v9.1.length ≤ v9.1.length)).bind fun _ =>
   (EL ((0 : Int) ≤ v9.2 ∧ 0 ≤ (v9.2).toNat ∧ (v9.2).toNat ≤ v9.1.length)).bind fun _ =>
   CK N j9 n9 (Ns v9.1 ((v9.2).toNat) ((((v9.1.drop 0).take ((v9.2).toNat))).take (zA3 (((v9.1.drop 0).take ((v9.2).toNat))).length ((v9.1.length - (v9.2).toNat)))), (wI .i64 (v9.2 + (((zA3 (((v9.1.drop 0).take ((v9.2).toNat))).length ((v9.1.length - (v9.2).toNat))) : Nat) : Int)))))
   (j9 v9.1)
def C8 (N : Nat) (p0 : List Int) (p1 : Int) : Option ((List Int)) :=
 A7 (fun (_ : Unit) =>
  (F8 N ((wI .u64 ((p0.length : Int)))) ((wI .u64 p1))).bind fun v3 =>
  A7 (fun (_ : Unit) =>
   (EL ((0 : Int) ≤ (wI .i64 v3.2) ∧ (wI .i64 v3.2) ≤ (wI .i64 v3.2) ∧ (wI .i64 v3.2) ≤ (GA : Int))).bind fun _ =>
   CK N (fun (v10 : (List Int)) =>
    some v10) N (Ns (vC ((wI .i64 v3.2)).toNat ((0 : Int))) 0 (p0.take (zA3 p0.length ((vC ((wI .i64 v3.2)).toNat ((0 : Int))).length))), (((zA3 p0.length ((vC ((wI .i64 v3.2)).toNat ((0 : Int))).length)) : Nat) : Int)))
  fun j4 =>
  A7 (fun (v5 : Bool) =>
   AK v5
    (none)
    (j4 ()))
  fun j5 =>
  AK ((decide (0 < v3.1)))
   (j5 true)
   (j5 (decide (9223372036854775807 < v3.2))))
 fun j1 =>
 AK ((decide (p1 < 0)))
  (none)
  (j1 ())
def Ev (_ : Nat) (p0 : AH) : Option Bool :=
 A7 (fun (v1 : Bool) =>
  some v1)
 fun j1 =>
 AK ((p0.fa == 3))
  (j1 true)
  (j1 (p0.fa == 4))
def CY (N : Nat) (p0 : Aa) (j6 : ((List Int)) → Option (Ac × Int)) : Nat → ((List Int) × Int) → Option (Ac × Int)
 | 0, _ => none
 | n6 + 1, v6 =>
  AK ((decide (v6.2 < (p0.fd.length : Int))))
   (A7 (fun (v9 : (List Int)) =>
    CY N p0 j6 n6 (v9, (wI .i64 (v6.2 + 1))))
   fun j9 =>
   (Bt p0.fd v6.2).bind fun v10 =>
   (Ev N v10).bind fun v11 =>
   AK v11
    ((Bt p0.fk v10.fj).bind fun v13 =>
    (EL (0 ≤ v13)).bind fun _ =>
    (Bt v6.1 v6.2).bind fun _ =>
    j9 (v6.1.set ((v6.2).toNat) ((Dm .u8 1 v13))))
    (j9 v6.1))
   (j6 v6.1)
def FC (N : Nat) (p0 : Aa) : Option (Ac × Int) :=
 (BO N p0).bind fun v1 =>
 AK ((v1 != 0))
  (some ((Ac.mk (([] : List Int)) (([] : List Int)) (([] : List Int))), v1))
  ((BS N p0.fk).bind fun v3 =>
  (C8 N (([(-1)] : List Int)) ((p0.fk.length : Int))).bind fun v4 =>
  (EL ((0 : Int) ≤ (p0.fd.length : Int) ∧ (p0.fd.length : Int) ≤ (p0.fd.length : Int) ∧ (p0.fd.length : Int) ≤ (GA : Int))).bind fun _ =>
  CY N p0 (fun (v7 : (List Int)) =>
   some ((Ac.mk v3 v4 v7), 0)) N (vC ((p0.fd.length : Int)).toNat ((0 : Int)), 0))
def ES (_ : Nat) (p0 : Ac) (p1 : Int) : Option Int :=
 (Bt p0.fh p1).bind fun v1 =>
 (EL (0 ≤ v1)).bind fun _ =>
 A7 (fun (v3 : Int) =>
  some v3)
 fun j3 =>
 (Bt p0.ff p1).bind fun v4 =>
 AK ((decide (0 ≤ v4)))
  ((Bt p0.ff p1).bind fun v6 =>
  (EL (0 ≤ v6)).bind fun _ =>
  j3 (KS .u8 ((Dm .u8 1 v1)) ((Dm .u8 1 v6))))
  (j3 (Dm .u8 1 v1))
def CZ (N : Nat) (p0 : Aa) (p1 : Ac) (j7 : Unit → Option Int) : Nat → Int → Option Int
 | 0, _ => none
 | n7 + 1, v7 =>
  AK ((decide (v7 < (p0.fb.length : Int))))
   ((Bt p0.fb v7).bind fun v10 =>
   A7 (fun (v11 : Bool) =>
    AK v11
     (some 7)
     ((Bt p1.fh v7).bind fun v20 =>
     (Bt p1.ff v7).bind fun v21 =>
     AK ((v20 == v21))
      (some 1)
      (CZ N p0 p1 j7 n7 (wI .i64 (v7 + 1)))))
   fun j11 =>
   (Bt p1.fh v7).bind fun v12 =>
   AK ((decide (v12 < 0)))
    (j11 true)
    ((Bt p1.fh v7).bind fun v14 =>
    AK ((decide (v10 ≤ v14)))
     (j11 true)
     ((Bt p1.ff v7).bind fun v16 =>
     AK ((decide (v16 < (-1))))
      (j11 true)
      ((Bt p1.ff v7).bind fun v18 =>
      j11 (decide (v10 ≤ v18))))))
   (j7 ())
def CD (N : Nat) (p0 : Aa) (p1 : Ac) (j23 : Unit → Option Int) : Nat → Int → Option Int
 | 0, _ => none
 | n23 + 1, v23 =>
  AK ((decide (v23 < (p0.fd.length : Int))))
   ((Bt p0.fd v23).bind fun v26 =>
   A7 (fun (v27 : Int × Int) =>
    A7 (fun (v33 : Bool) =>
     AK v33
      (some 1)
      (CD N p0 p1 j23 n23 (wI .i64 (v23 + 1))))
    fun j33 =>
    (Bt p1.fg v23).bind fun v34 =>
    AK (((Ce .u8 v27.1 v34) != 0))
     (j33 true)
     ((Bt p1.fg v23).bind fun v36 =>
     j33 ((Ce .u8 v36 v27.2) != 0)))
   fun j27 =>
   (Ev N v26).bind fun v28 =>
   AK v28
    ((ES N p1 v26.fj).bind fun v30 =>
    (Bt p0.fb v26.fj).bind fun v31 =>
    (EL (0 ≤ v31)).bind fun _ =>
    j27 (v30, (wI .u8 ((Dm .u8 1 v31) - 1))))
    (j27 (0, 0)))
   (j23 ())
def EU (N : Nat) (p0 : Aa) (p1 : Ac) : Option Int :=
 (BO N p0).bind fun v1 =>
 AK ((v1 != 0))
  (some v1)
  (A7 (fun (v3 : Bool) =>
   AK v3
    (some 6)
    (CZ N p0 p1 (fun (_ : Unit) =>
     CD N p0 p1 (fun (_ : Unit) =>
      some 0) N 0) N 0))
  fun j3 =>
  AK (((p1.fh.length : Int) != (p0.fb.length : Int)))
   (j3 true)
   (AK (((p1.ff.length : Int) != (p0.fb.length : Int)))
    (j3 true)
    (j3 ((p1.fg.length : Int) != (p0.fd.length : Int)))))
def BM (_ : Nat) (p0 : List Int) : Option ((List Int)) :=
 (EL ((([] : List Int)).length + p0.length ≤ GA)).bind fun _ =>
 some ((([] : List Int)) ++ p0)
def D4 (N : Nat) (p0 : Ac) : Option Ac :=
 (BS N p0.fh).bind fun v1 =>
 (BS N p0.ff).bind fun v2 =>
 (BM N p0.fg).bind fun v3 =>
 some ((Ac.mk v1 v2 v3))
def E4 (_ : Nat) (p0 : Am) : Option Bool :=
 A7 (fun (v1 : Bool) =>
  AK v1
   (some false)
   (A7 (fun (v5 : Bool) =>
    some v5)
   fun j5 =>
   AK ((p0.fa == 1))
    (j5 true)
    (j5 (p0.fp == 0))))
 fun j1 =>
 AK ((decide ((RE p0.fm p0.fp) < 0)))
  (j1 true)
  (AK ((decide (p0.fa < 1)))
   (j1 true)
   (j1 (decide (4 < p0.fa))))
def EK (_ : Nat) (p0 : Aa) (p1 : Am) : Option Bool :=
 AK ((p1.fa == 3))
  (some ((decide (p1.fm < (p0.fd.length : Int)))))
  (A7 (fun (v2 : Bool) =>
   some v2)
  fun j2 =>
  AK ((decide (p1.fm < (p0.fb.length : Int))))
   (AK ((p1.fa != 1))
    (j2 true)
    ((Bt p0.fb p1.fm).bind fun v5 =>
    j2 (decide (p1.fp < v5))))
   (j2 false))
def D5 (_ : Nat) (p0 : AH) : Option Bool :=
 A7 (fun (v1 : Bool) =>
  some v1)
 fun j1 =>
 AK ((p0.fa == 3))
  (j1 true)
  (j1 (p0.fa == 4))
def CH (N : Nat) (p0 : Aa) (p2 : Am) (j7 : ((List Int)) → Option (Bool × (List Int) × (List Int))) : Nat → ((List Int) × Int) → Option (Bool × (List Int) × (List Int))
 | 0, _ => none
 | n7 + 1, v7 =>
  AK ((decide (v7.2 < (p0.fd.length : Int))))
   (A7 (fun (v10 : (List Int)) =>
    CH N p0 p2 j7 n7 (v10, (wI .i64 (v7.2 + 1))))
   fun j10 =>
   (Bt p0.fd v7.2).bind fun v11 =>
   A7 (fun (v12 : Bool) =>
    AK v12
     ((Bt v7.1 v7.2).bind fun v16 =>
     (EL (0 ≤ p2.fp)).bind fun _ =>
     (Bt v7.1 v7.2).bind fun _ =>
     j10 (v7.1.set ((v7.2).toNat) ((KS .u8 v16 ((Dm .u8 1 p2.fp))))))
     (j10 v7.1))
   fun j12 =>
   AK ((v11.fj == p2.fm))
    ((D5 N v11).bind fun v14 =>
    j12 v14)
    (j12 false))
   (j7 v7.1)
def Ga (N : Nat) (p0 : Aa) (p1 : Ac) (p2 : Am) : Option (Bool × (List Int) × (List Int)) :=
 A7 (fun (v1 : Bool) =>
  AK v1
   (some (false, p1.ff, p1.fg))
   ((Bt p1.ff p2.fm).bind fun _ =>
   CH N p0 p2 (fun (v8 : (List Int)) =>
    some (true, p1.ff.set ((p2.fm).toNat) p2.fp, v8)) N (p1.fg, 0)))
 fun j1 =>
 (Bt p1.ff p2.fm).bind fun v2 =>
 AK ((decide (0 ≤ v2)))
  (j1 true)
  ((Bt p1.fh p2.fm).bind fun v4 =>
  j1 (v4 == p2.fp))
def Ek (_ : Nat) (p0 : Ac) (p1 : Int) : Option Int :=
 (Bt p0.fh p1).bind fun v1 =>
 (EL (0 ≤ v1)).bind fun _ =>
 A7 (fun (v3 : Int) =>
  some v3)
 fun j3 =>
 (Bt p0.ff p1).bind fun v4 =>
 AK ((decide (0 ≤ v4)))
  ((Bt p0.ff p1).bind fun v6 =>
  (EL (0 ≤ v6)).bind fun _ =>
  j3 (KS .u8 ((Dm .u8 1 v1)) ((Dm .u8 1 v6))))
  (j3 (Dm .u8 1 v1))
def B2 (_ : Nat) (p0 : Int) : Option Int :=
 (Sj ((⟨⟨(List.append (List.append [8, 0, 1, 0, 2, 0, 1, 0, 3, 0, 1, 0, 2, 0, 1, 0, 4, 0, 1, 0, 2, 0, 1, 0, 3, 0, 1, 0, 2, 0, 1, 0, 5, 0, 1, 0, 2, 0, 1, 0, 3, 0, 1, 0, 2, 0, 1, 0, 4, 0, 1, 0, 2, 0, 1, 0, 3, 0, 1, 0, 2, 0, 1, 0] [6, 0, 1, 0, 2, 0, 1, 0, 3, 0, 1, 0, 2, 0, 1, 0, 4, 0, 1, 0, 2, 0, 1, 0, 3, 0, 1, 0, 2, 0, 1, 0, 5, 0, 1, 0, 2, 0, 1, 0, 3, 0, 1, 0, 2, 0, 1, 0, 4, 0, 1, 0, 2, 0, 1, 0, 3, 0, 1, 0, 2, 0, 1, 0]) (List.append [7, 0, 1, 0, 2, 0, 1, 0, 3, 0, 1, 0, 2, 0, 1, 0, 4, 0, 1, 0, 2, 0, 1, 0, 3, 0, 1, 0, 2, 0, 1, 0, 5, 0, 1, 0, 2, 0, 1, 0, 3, 0, 1, 0, 2, 0, 1, 0, 4, 0, 1, 0, 2, 0, 1, 0, 3, 0, 1, 0, 2, 0, 1, 0] [6, 0, 1, 0, 2, 0, 1, 0, 3, 0, 1, 0, 2, 0, 1, 0, 4, 0, 1, 0, 2, 0, 1, 0, 3, 0, 1, 0, 2, 0, 1, 0, 5, 0, 1, 0, 2, 0, 1, 0, 3, 0, 1, 0, 2, 0, 1, 0, 4, 0, 1, 0, 2, 0, 1, 0, 3, 0, 1, 0, 2, 0, 1, 0]))⟩⟩ : ByteArray)) p0).bind fun v1 =>
 some ((wI .i64 v1))
def Cq (N : Nat) (p0 : AH) (p2 : Int) (j1 : Unit → Option Bool) : Nat → Int → Option Bool
 | 0, _ => none
 | n1 + 1, v1 =>
  AK ((v1 != 0))
   ((B2 N v1).bind fun v4 =>
   (Bt p0.fr v4).bind fun v5 =>
   (Bt v5 p2).bind fun v6 =>
   AK ((!v6))
    (some false)
    (Cq N p0 p2 j1 n1 (Ft .u8 v1 ((wI .u8 (v1 - 1))))))
   (j1 ())
def Ej (N : Nat) (p0 : AH) (p1 : Int) (p2 : Int) : Option Bool :=
 Cq N p0 p2 (fun (_ : Unit) =>
  some true) N p1
def E5 (N : Nat) (p0 : Aa) (p1 : Ac) (p2 : Int) : Option (Bool × (List Int)) :=
 (Bt p0.fd p2).bind fun v1 =>
 (D5 N v1).bind fun v2 =>
 AK ((!v2))
  (some (false, p1.fg))
  ((Ek N p1 v1.fj).bind fun v4 =>
  (Bt p1.fg p2).bind fun v5 =>
  A7 (fun (v6 : Bool) =>
   AK v6
    (some (false, p1.fg))
    ((Bt p1.fg p2).bind fun _ =>
    some (true, p1.fg.set ((p2).toNat) v4)))
  fun j6 =>
  (Bt p1.fg p2).bind fun v7 =>
  AK ((v7 == v4))
   (j6 true)
   (AK ((v1.fa == 4))
    ((Bt p1.fh v1.fj).bind fun v10 =>
    (Ej N v1 ((Ce .u8 v5 v4)) v10).bind fun v11 =>
    j6 (!v11))
    (j6 false)))
def E6 (N : Nat) (p0 : Aa) (p1 : Ac) (p2 : Am) : Option (Ac × Bool) :=
 (D4 N p1).bind fun v1 =>
 AK ((p2.fa == 1))
  ((Ga N p0 v1 p2).bind fun v3 =>
  some ((Ac.mk v1.fh v3.2.1 v3.2.2), v3.1))
  (AK ((p2.fa == 3))
   ((E5 N p0 v1 p2.fm).bind fun v5 =>
   some ((Ac.mk v1.fh v1.ff v5.2), v5.1))
   ((Bt v1.ff p2.fm).bind fun v6 =>
   AK ((decide (v6 < 0)))
    (some (v1, false))
    ((Bt v1.ff p2.fm).bind fun _ =>
    A7 (fun (v9 : (List Int)) =>
     some ((Ac.mk v9 (v1.ff.set ((p2.fm).toNat) ((-1))) v1.fg), true))
    fun j9 =>
    AK ((p2.fa == 2))
     ((Bt v1.fh p2.fm).bind fun _ =>
     j9 (v1.fh.set ((p2.fm).toNat) v6))
     (j9 v1.fh))))
def Es (N : Nat) (p0 : Aa) (p1 : Ac) (p2 : Am) : Option (Ac × Int) :=
 (E4 N p2).bind fun v1 =>
 AK ((!v1))
  (some ((Ac.mk (([] : List Int)) (([] : List Int)) (([] : List Int))), 1))
  ((EK N p0 p2).bind fun v3 =>
  AK ((!v3))
   (some ((Ac.mk (([] : List Int)) (([] : List Int)) (([] : List Int))), 4))
   ((E6 N p0 p1 p2).bind fun v5 =>
   AK ((!v5.2))
    (some ((Ac.mk (([] : List Int)) (([] : List Int)) (([] : List Int))), 11))
    (some (v5.1, 0))))
def D8 (N : Nat) (p0 : Aa) (p2 : List Am) (j4 : ((List Ac)) → Option ((List Ac) × Int × Int)) : Nat → ((List Ac) × Int) → Option ((List Ac) × Int × Int)
 | 0, _ => none
 | n4 + 1, v4 =>
  AK ((decide (v4.2 < (p2.length : Int))))
   ((Bt p2 v4.2).bind fun v7 =>
   (Bt v4.1 v4.2).bind fun v8 =>
   (Es N p0 v8 v7).bind fun v9 =>
   AK ((v9.2 != 0))
    (some (([] : List Ac), v4.2, v9.2))
    ((EL (v4.1.length + (([v9.1] : List Ac)).length ≤ GA)).bind fun _ =>
    D8 N p0 p2 j4 n4 (v4.1 ++ (([v9.1] : List Ac)), (wI .i64 (v4.2 + 1)))))
   (j4 v4.1)
def Gk (N : Nat) (p0 : Aa) (p1 : Ac) (p2 : List Am) : Option ((List Ac) × Int × Int) :=
 (EU N p0 p1).bind fun v1 =>
 AK ((v1 != 0))
  (some (([] : List Ac), 0, v1))
  ((D4 N p1).bind fun v3 =>
  D8 N p0 p2 (fun (v5 : (List Ac)) =>
   some (v5, (p2.length : Int), 0)) N (([v3] : List Ac), 0))
def C2 (N : Nat) (p0 : Aa) (p1 : List Am) : Option (Ac × Int) :=
 (A8 N p1 ((fun (x : Am) => Db N x))).bind fun v1 =>
 AK v1
  (some ((Ac.mk (([] : List Int)) (([] : List Int)) (([] : List Int))), 1))
  ((FC N p0).bind fun v3 =>
  AK ((v3.2 != 0))
   (some ((Ac.mk (([] : List Int)) (([] : List Int)) (([] : List Int))), v3.2))
   ((Gk N p0 v3.1 p1).bind fun v5 =>
   some (v3.1, v5.2.2)))
def Eu (_ : Nat) (p0 : Int) : Option ByteArray :=
 A7 (fun (v1 : Bool) =>
  AK v1
   (some ((⟨#[]⟩ : ByteArray)))
   ((Bt ([⟨#[]⟩, (⟨#[114, 101, 97, 100]⟩ : ByteArray), (⟨#[98, 101, 103, 105, 110]⟩ : ByteArray), (⟨#[100, 111, 110, 101]⟩ : ByteArray), (⟨#[97, 98, 111, 114, 116]⟩ : ByteArray), (⟨#[114, 101, 115, 117, 109, 101]⟩ : ByteArray), (⟨#[115, 119, 105, 116, 99, 104]⟩ : ByteArray), (⟨#[108, 101, 97, 115, 101]⟩ : ByteArray)] : List ByteArray) p0).bind fun v4 =>
   some v4))
 fun j1 =>
 AK ((decide (p0 < 0)))
  (j1 true)
  (j1 (decide (8 ≤ p0)))
def Dv (_ : Nat) (p0 : Ae) : Option ((List Int)) :=
 AK ((p0.fa == 1))
  (some (([p0.fF, p0.fD, p0.fG] : List Int)))
  (AK ((p0.fa == 6))
   (some (([p0.fE, p0.fp, p0.fI] : List Int)))
   (AK ((p0.fa == 7))
    (some (([p0.fK, p0.fy] : List Int)))
    (some (([p0.fm, p0.fy] : List Int)))))
def D3 (_ : Nat) (p0 : Int) (p1 : Int) (p2 : List Int) : Option Ae :=
 A7 (fun (v1 : Int × Int × Int × Int × Int × Int × Int × Int × Int) =>
  some ((Ae.mk p0 p1 v1.1 v1.2.1 v1.2.2.1 v1.2.2.2.1 v1.2.2.2.2.1 v1.2.2.2.2.2.1 v1.2.2.2.2.2.2.1 v1.2.2.2.2.2.2.2.1 v1.2.2.2.2.2.2.2.2)))
 fun j1 =>
 AK ((p1 == 1))
  ((Bt p2 0).bind fun v3 =>
  (Bt p2 1).bind fun v4 =>
  (Bt p2 2).bind fun v5 =>
  j1 (v3, v4, v5, 0, 0, 0, 0, 0, 0))
  (AK ((p1 == 6))
   ((Bt p2 0).bind fun v7 =>
   (Bt p2 1).bind fun v8 =>
   (Bt p2 2).bind fun v9 =>
   j1 (0, 0, 0, 0, 0, v9, v7, v8, 0))
   (AK ((p1 == 7))
    ((Bt p2 0).bind fun v11 =>
    (Bt p2 1).bind fun v12 =>
    j1 (0, 0, 0, 0, v12, 0, 0, 0, v11))
    ((Bt p2 0).bind fun v13 =>
    (Bt p2 1).bind fun v14 =>
    j1 (0, 0, 0, v13, v14, 0, 0, 0, 0))))
def AW (N : Nat) (p0 : List Int) (p1 : Int → Option Bool) (j1 : Unit → Option Int) : Nat → Int → Option Int
 | 0, _ => none
 | n1 + 1, v1 =>
  AK ((decide (v1 < (p0.length : Int))))
   ((Bt p0 v1).bind fun v4 =>
   (p1 v4).bind fun v5 =>
   AK v5
    (some v1)
    (AW N p0 p1 j1 n1 (wI .i64 (v1 + 1))))
   (j1 ())
def B6 (N : Nat) (p0 : List Int) (p1 : Int → Option Bool) : Option Int :=
 AW N p0 p1 (fun (_ : Unit) =>
  some ((-1))) N 0
def A9 (N : Nat) (p0 : List Int) (p1 : Int → Option Bool) : Option Bool :=
 (B6 N p0 p1).bind fun v1 =>
 some ((decide (0 ≤ v1)))
def DH (_ : Nat) (p0 : Int) : Option Bool :=
 some ((decide (p0 < 0)))
def EO (N : Nat) (p0 : Ae) : Option Bool :=
 A7 (fun (v1 : Bool) =>
  AK v1
   (some false)
   ((Dv N p0).bind fun v5 =>
   A7 (fun (v6 : Bool) =>
    some v6)
   fun j6 =>
   (D3 N p0.fi p0.fa v5).bind fun v7 =>
   AK (((p0.fi == v7.fi) && ((p0.fa == v7.fa) && ((p0.fF == v7.fF) && ((p0.fD == v7.fD) && ((p0.fG == v7.fG) && ((p0.fm == v7.fm) && ((p0.fy == v7.fy) && ((p0.fI == v7.fI) && ((p0.fE == v7.fE) && ((p0.fp == v7.fp) && ((p0.fK == v7.fK) && true))))))))))))
    ((A9 N v5 ((fun (x : Int) => DH N x))).bind fun v9 =>
    j6 (!v9))
    (j6 false)))
 fun j1 =>
 (Eu N p0.fa).bind fun v2 =>
 AK ((v2.toList == ((⟨#[]⟩ : ByteArray)).toList))
  (j1 true)
  (j1 (decide (p0.fi < 0)))
def Dn (N : Nat) (p0 : List Ae) (j2 : Unit → Option Int) : Nat → Int → Option Int
 | 0, _ => none
 | n2 + 1, v2 =>
  AK ((decide (v2 < (p0.length : Int))))
   ((Bt p0 v2).bind fun v5 =>
   A7 (fun (v6 : Bool) =>
    AK v6
     (some 1)
     (Dn N p0 j2 n2 (wI .i64 (v2 + 1))))
   fun j6 =>
   (EO N v5).bind fun v7 =>
   AK ((!v7))
    (j6 true)
    (AK ((decide (0 < v2)))
     ((Bt p0 ((wI .i64 (v2 - 1)))).bind fun v10 =>
     j6 (decide (v5.fi < v10.fi)))
     (j6 false)))
   (j2 ())
def Dh (N : Nat) (p0 : List Ae) : Option Int :=
 AK ((decide (10000 < (p0.length : Int))))
  (some 3)
  (Dn N p0 (fun (_ : Unit) =>
   some 0) N 0)
def Fi (_ : Nat) : Option BN :=
 some ((BN.mk 0 0 false (([] : List (Int × Int)))))
def Hr (_ : Nat) (p0 : Aa) (p1 : Ae) : Option Bool :=
 AK ((decide ((p0.fd.length : Int) ≤ p1.fF)))
  (some false)
  ((Bt p0.fd p1.fF).bind fun v2 =>
  A7 (fun (v3 : Bool) =>
   some v3)
  fun j3 =>
  AK ((decide (p1.fD < (v2.fH.length : Int))))
   ((Bt p0.fb v2.fw).bind fun v5 =>
   AK ((decide (p1.fG < v5)))
    ((Bt v2.fH p1.fD).bind fun v7 =>
    (Bt v7 p1.fG).bind fun v8 =>
    j3 v8)
    (j3 false))
   (j3 false))
def CW (_ : Nat) (p0 : Ae) : Option Bool :=
 A7 (fun (v1 : Bool) =>
  some v1)
 fun j1 =>
 AK ((decide (2 ≤ p0.fa)))
  (j1 (decide (p0.fa ≤ 5)))
  (j1 false)
def BQ (_ : Nat) (p0 : Ai) (p1 : Ae) : Option Bool :=
 A7 (fun (v1 : Bool) =>
  AK v1
   (some false)
   (AK ((p1.fa == 2))
    (some ((p0.ft == 0)))
    (AK ((p1.fa == 3))
     (some ((p0.ft == 1)))
     (AK ((p1.fa == 4))
      (A7 (fun (v7 : Bool) =>
       some v7)
      fun j7 =>
      AK ((p0.ft == 1))
       ((Bt p0.fq p0.fi).bind fun v9 =>
       j7 (v9.fa == 1))
       (j7 false))
      (some ((p0.ft == 2)))))))
 fun j1 =>
 AK ((p1.fm != p0.fi))
  (j1 true)
  (j1 (decide ((p0.fq.length : Int) ≤ p0.fi)))
def EA (N : Nat) (p0 : BN) (p1 : Ae) : Option (Bool × BN × (List (Int × Int))) :=
 A7 (fun (v1 : (List (Int × Int)) × Int × Int × Bool) =>
  some (true, (BN.mk v1.2.1 v1.2.2.1 v1.2.2.2 v1.1), v1.1))
 fun j1 =>
 (CW N p1).bind fun v2 =>
 AK v2
  (AK ((decide (p1.fy < p0.fA)))
   (some (false, p0, p0.fJ))
   (j1 (p0.fJ, p1.fy, p0.fB, p0.fC)))
  (AK ((p1.fa == 6))
   (AK ((decide (p1.fI < ((Ic p1.fE p0.fJ).getD 0))))
    (some (false, p0, p0.fJ))
    (j1 (KO p1.fE p1.fI p0.fJ, p0.fA, p0.fB, p0.fC)))
   (AK ((p1.fa == 7))
    (A7 (fun (v8 : Bool) =>
     AK v8
      (some (false, p0, p0.fJ))
      (j1 (p0.fJ, p0.fA, p1.fy, true)))
    fun j8 =>
    AK p0.fC
     (j8 (decide (p1.fy ≤ p0.fB)))
     (j8 false))
    (j1 (p0.fJ, p0.fA, p0.fB, p0.fC))))
def EF (N : Nat) (p0 : List Int) (j1 : Unit → Option Int) : Nat → (Int × Int) → Option Int
 | 0, _ => none
 | n1 + 1, v1 =>
  AK ((decide (v1.2 < (p0.length : Int))))
   ((Bt p0 v1.2).bind fun v4 =>
   AK ((decide (v1.1 < v4)))
    (some v1.2)
    (EF N p0 j1 n1 ((wI .i64 (v1.1 - v4)), (wI .i64 (v1.2 + 1)))))
   (j1 ())
def He (N : Nat) (p0 : List Int) (p1 : Int) : Option Int :=
 EF N p0 (fun (_ : Unit) =>
  some ((-1))) N (p1, 0)
def D6 (_ : Nat) (p0 : Ac) (p1 : Int) (p2 : Int) : Option Bool :=
 A7 (fun (v1 : Bool) =>
  some v1)
 fun j1 =>
 (Bt p0.fh p1).bind fun v2 =>
 AK ((v2 == p2))
  (j1 true)
  ((Bt p0.ff p1).bind fun v4 =>
  j1 (v4 == p2))
def FY (N : Nat) (p0 : Aa) (p1 : Ac) (p2 : Ae) : Option Bool :=
 (Bt p0.fd p2.fF).bind fun v1 =>
 (D6 N p1 v1.fw p2.fG).bind fun v2 =>
 AK ((!v2))
  (some false)
  (A7 (fun (v4 : Bool) =>
   AK v4
    ((Bt p1.fg p2.fF).bind fun v7 =>
    (EL (0 ≤ p2.fD)).bind fun _ =>
    some (((Ft .u8 ((FM .u8 v7 p2.fD)) 1) == 1)))
    ((D6 N p1 v1.fj p2.fD).bind fun v9 =>
    some v9))
  fun j4 =>
  AK ((v1.fa == 3))
   (j4 true)
   (j4 (v1.fa == 4)))
def Fa (N : Nat) (p0 : Aa) (p1 : Ac) (p2 : Am) : Option (Ac × Int) :=
 (EU N p0 p1).bind fun v1 =>
 AK ((v1 != 0))
  (some ((Ac.mk (([] : List Int)) (([] : List Int)) (([] : List Int))), v1))
  ((Es N p0 p1 p2).bind fun v3 =>
  some (v3.1, v3.2))
def BX (N : Nat) (p0 : Ai) (p1 : Am) : Option Ai :=
 (Fa N ((Aa.mk p0.fc.fb p0.fc.fk p0.fc.fo p0.fc.fd)) ((Ac.mk p0.fe.fh p0.fe.ff p0.fe.fg)) p1).bind fun v1 =>
 AK ((v1.2 == 0))
  (some ((Ai.mk ((Aa.mk p0.fc.fb p0.fc.fk p0.fc.fo p0.fc.fd)) p0.fq p0.fi p0.ft v1.1)))
  (some ((Ai.mk ((Aa.mk p0.fc.fb p0.fc.fk p0.fc.fo p0.fc.fd)) p0.fq p0.fi p0.ft ((Ac.mk p0.fe.fh p0.fe.ff p0.fe.fg)))))
def BF (N : Nat) (p0 : Ai) (p1 : Ae) : Option Ai :=
 (Bt p0.fq p0.fi).bind fun v1 =>
 AK ((p1.fa == 2))
  (AK ((v1.fa == 1))
   ((BX N ((Ai.mk ((Aa.mk p0.fc.fb p0.fc.fk p0.fc.fo p0.fc.fd)) p0.fq p0.fi 1 ((Ac.mk p0.fe.fh p0.fe.ff p0.fe.fg)))) v1).bind fun v4 =>
   some ((Ai.mk ((Aa.mk v4.fc.fb v4.fc.fk v4.fc.fo v4.fc.fd)) v4.fq v4.fi v4.ft ((Ac.mk v4.fe.fh v4.fe.ff v4.fe.fg)))))
   (some ((Ai.mk ((Aa.mk p0.fc.fb p0.fc.fk p0.fc.fo p0.fc.fd)) p0.fq p0.fi 1 ((Ac.mk p0.fe.fh p0.fe.ff p0.fe.fg))))))
  (AK ((p1.fa == 3))
   (A7 (fun (v6 : Ai) =>
    some ((Ai.mk ((Aa.mk v6.fc.fb v6.fc.fk v6.fc.fo v6.fc.fd)) v6.fq ((wI .i64 (v6.fi + 1))) 0 ((Ac.mk v6.fe.fh v6.fe.ff v6.fe.fg)))))
   fun j6 =>
   AK ((v1.fa != 1))
    ((BX N ((Ai.mk ((Aa.mk p0.fc.fb p0.fc.fk p0.fc.fo p0.fc.fd)) p0.fq p0.fi p0.ft ((Ac.mk p0.fe.fh p0.fe.ff p0.fe.fg)))) v1).bind fun v8 =>
    j6 (Ai.mk ((Aa.mk v8.fc.fb v8.fc.fk v8.fc.fo v8.fc.fd)) v8.fq v8.fi v8.ft ((Ac.mk v8.fe.fh v8.fe.ff v8.fe.fg))))
    (j6 (Ai.mk ((Aa.mk p0.fc.fb p0.fc.fk p0.fc.fo p0.fc.fd)) p0.fq p0.fi p0.ft ((Ac.mk p0.fe.fh p0.fe.ff p0.fe.fg)))))
   (AK ((p1.fa == 4))
    (some ((Ai.mk ((Aa.mk p0.fc.fb p0.fc.fk p0.fc.fo p0.fc.fd)) p0.fq p0.fi 2 ((Ac.mk p0.fe.fh p0.fe.ff p0.fe.fg)))))
    (AK ((p1.fa == 5))
     ((BX N ((Ai.mk ((Aa.mk p0.fc.fb p0.fc.fk p0.fc.fo p0.fc.fd)) p0.fq p0.fi 0 ((Ac.mk p0.fe.fh p0.fe.ff p0.fe.fg)))) ((Am.mk 4 v1.fm 0))).bind fun v11 =>
     some ((Ai.mk ((Aa.mk v11.fc.fb v11.fc.fk v11.fc.fo v11.fc.fd)) v11.fq v11.fi v11.ft ((Ac.mk v11.fe.fh v11.fe.ff v11.fe.fg)))))
     (some ((Ai.mk ((Aa.mk p0.fc.fb p0.fc.fk p0.fc.fo p0.fc.fd)) p0.fq p0.fi p0.ft ((Ac.mk p0.fe.fh p0.fe.ff p0.fe.fg))))))))
def Fk (N : Nat) (p0 : Ai) (p1 : BN) (p2 : List Int) (p3 : Ae) : Option (Int × Ai × BN × (List (Int × Int))) :=
 A7 (fun (v1 : (List (Int × Int)) × Ai × Int × Int × Bool) =>
  some (0, (Ai.mk ((Aa.mk v1.2.1.fc.fb v1.2.1.fc.fk v1.2.1.fc.fo v1.2.1.fc.fd)) v1.2.1.fq v1.2.1.fi v1.2.1.ft ((Ac.mk v1.2.1.fe.fh v1.2.1.fe.ff v1.2.1.fe.fg))), (BN.mk v1.2.2.1 v1.2.2.2.1 v1.2.2.2.2 v1.1), v1.1))
 fun j1 =>
 A7 (fun (v2 : Bool) =>
  AK v2
   (some (1, (Ai.mk ((Aa.mk p0.fc.fb p0.fc.fk p0.fc.fo p0.fc.fd)) p0.fq p0.fi p0.ft ((Ac.mk p0.fe.fh p0.fe.ff p0.fe.fg))), p1, p1.fJ))
   (A7 (fun (v6 : Bool) =>
    AK v6
     (some (2, (Ai.mk ((Aa.mk p0.fc.fb p0.fc.fk p0.fc.fo p0.fc.fd)) p0.fq p0.fi p0.ft ((Ac.mk p0.fe.fh p0.fe.ff p0.fe.fg))), p1, p1.fJ))
     ((EA N p1 p3).bind fun v11 =>
     AK ((!v11.1))
      (some (3, (Ai.mk ((Aa.mk p0.fc.fb p0.fc.fk p0.fc.fo p0.fc.fd)) p0.fq p0.fi p0.ft ((Ac.mk p0.fe.fh p0.fe.ff p0.fe.fg))), (BN.mk v11.2.1.fA v11.2.1.fB v11.2.1.fC v11.2.2), v11.2.2))
      (AK ((p3.fa == 6))
       ((He N p2 p3.fE).bind fun v14 =>
       A7 (fun (v15 : Bool) =>
        AK v15
         (some (4, (Ai.mk ((Aa.mk p0.fc.fb p0.fc.fk p0.fc.fo p0.fc.fd)) p0.fq p0.fi p0.ft ((Ac.mk p0.fe.fh p0.fe.ff p0.fe.fg))), (BN.mk v11.2.1.fA v11.2.1.fB v11.2.1.fC v11.2.2), v11.2.2))
         (j1 (v11.2.2, (Ai.mk ((Aa.mk p0.fc.fb p0.fc.fk p0.fc.fo p0.fc.fd)) p0.fq p0.fi p0.ft ((Ac.mk p0.fe.fh p0.fe.ff p0.fe.fg))), v11.2.1.fA, v11.2.1.fB, v11.2.1.fC)))
       fun j15 =>
       AK ((decide (v14 < 0)))
        (j15 true)
        ((D6 N ((Ac.mk p0.fe.fh p0.fe.ff p0.fe.fg)) v14 p3.fp).bind fun v17 =>
        j15 (!v17)))
       (AK ((p3.fa == 1))
        ((FY N ((Aa.mk p0.fc.fb p0.fc.fk p0.fc.fo p0.fc.fd)) ((Ac.mk p0.fe.fh p0.fe.ff p0.fe.fg)) p3).bind fun v20 =>
        AK ((!v20))
         (some (5, (Ai.mk ((Aa.mk p0.fc.fb p0.fc.fk p0.fc.fo p0.fc.fd)) p0.fq p0.fi p0.ft ((Ac.mk p0.fe.fh p0.fe.ff p0.fe.fg))), (BN.mk v11.2.1.fA v11.2.1.fB v11.2.1.fC v11.2.2), v11.2.2))
         (j1 (v11.2.2, (Ai.mk ((Aa.mk p0.fc.fb p0.fc.fk p0.fc.fo p0.fc.fd)) p0.fq p0.fi p0.ft ((Ac.mk p0.fe.fh p0.fe.ff p0.fe.fg))), v11.2.1.fA, v11.2.1.fB, v11.2.1.fC)))
        ((CW N p3).bind fun v22 =>
        AK v22
         ((BF N ((Ai.mk ((Aa.mk p0.fc.fb p0.fc.fk p0.fc.fo p0.fc.fd)) p0.fq p0.fi p0.ft ((Ac.mk p0.fe.fh p0.fe.ff p0.fe.fg)))) p3).bind fun v24 =>
         j1 (v11.2.2, (Ai.mk ((Aa.mk v24.fc.fb v24.fc.fk v24.fc.fo v24.fc.fd)) v24.fq v24.fi v24.ft ((Ac.mk v24.fe.fh v24.fe.ff v24.fe.fg))), v11.2.1.fA, v11.2.1.fB, v11.2.1.fC))
         (j1 (v11.2.2, (Ai.mk ((Aa.mk p0.fc.fb p0.fc.fk p0.fc.fo p0.fc.fd)) p0.fq p0.fi p0.ft ((Ac.mk p0.fe.fh p0.fe.ff p0.fe.fg))), v11.2.1.fA, v11.2.1.fB, v11.2.1.fC)))))))
   fun j6 =>
   (CW N p3).bind fun v7 =>
   AK v7
    ((BQ N ((Ai.mk ((Aa.mk p0.fc.fb p0.fc.fk p0.fc.fo p0.fc.fd)) p0.fq p0.fi p0.ft ((Ac.mk p0.fe.fh p0.fe.ff p0.fe.fg)))) p3).bind fun v9 =>
    j6 (!v9))
    (j6 false)))
 fun j2 =>
 AK ((p3.fa == 1))
  ((Hr N ((Aa.mk p0.fc.fb p0.fc.fk p0.fc.fo p0.fc.fd)) p3).bind fun v4 =>
  j2 (!v4))
  (j2 false)
def Ef (N : Nat) (p1 : List Int) (p3 : List Ae) (j11 : Ai → Option (Int × Int × (Option Ai) × Int)) : Nat → (Ai × Int × Int × Bool × (List (Int × Int)) × Int) → Option (Int × Int × (Option Ai) × Int)
 | 0, _ => none
 | n11 + 1, v11 =>
  AK ((decide (v11.2.2.2.2.2 < (p3.length : Int))))
   ((Bt p3 v11.2.2.2.2.2).bind fun v14 =>
   (Fk N ((Ai.mk ((Aa.mk v11.1.fc.fb v11.1.fc.fk v11.1.fc.fo v11.1.fc.fd)) v11.1.fq v11.1.fi v11.1.ft ((Ac.mk v11.1.fe.fh v11.1.fe.ff v11.1.fe.fg)))) ((BN.mk v11.2.1 v11.2.2.1 v11.2.2.2.1 v11.2.2.2.2.1)) p1 v14).bind fun v15 =>
   AK ((v15.1 != 0))
    (some (v11.2.2.2.2.2, v15.1, (none : Option Ai), 0))
    (Ef N p1 p3 j11 n11 ((Ai.mk ((Aa.mk v15.2.1.fc.fb v15.2.1.fc.fk v15.2.1.fc.fo v15.2.1.fc.fd)) v15.2.1.fq v15.2.1.fi v15.2.1.ft ((Ac.mk v15.2.1.fe.fh v15.2.1.fe.ff v15.2.1.fe.fg))), v15.2.2.1.fA, v15.2.2.1.fB, v15.2.2.1.fC, v15.2.2.2, (wI .i64 (v11.2.2.2.2.2 + 1)))))
   (j11 (Ai.mk ((Aa.mk v11.1.fc.fb v11.1.fc.fk v11.1.fc.fo v11.1.fc.fd)) v11.1.fq v11.1.fi v11.1.ft ((Ac.mk v11.1.fe.fh v11.1.fe.ff v11.1.fe.fg))))
def G4 (N : Nat) (p0 : Aa) (p1 : List Int) (p2 : List Am) (p3 : List Ae) : Option (Int × Int × (Option Ai) × Int) :=
 (BO N p0).bind fun v1 =>
 AK ((v1 != 0))
  (some (0, 0, (none : Option Ai), v1))
  ((F3 N p0 p1).bind fun v3 =>
  AK ((v3 != 0))
   (some (0, 0, (none : Option Ai), v3))
   ((C2 N p0 p2).bind fun v5 =>
   A7 (fun (v6 : Int) =>
    AK ((v6 != 0))
     (some (0, 0, (none : Option Ai), v6))
     ((Fi N).bind fun v10 =>
     Ef N p1 p3 (fun (v12 : Ai) =>
      some (0, 0, (some ((Ai.mk ((Aa.mk v12.fc.fb v12.fc.fk v12.fc.fo v12.fc.fd)) v12.fq v12.fi v12.ft ((Ac.mk v12.fe.fh v12.fe.ff v12.fe.fg))))), 15)) N ((Ai.mk p0 p2 0 0 v5.1), v10.fA, v10.fB, v10.fC, v10.fJ, 0)))
   fun j6 =>
   AK ((v5.2 == 0))
    ((Dh N p3).bind fun v8 =>
    j6 v8)
    (j6 v5.2)))
def FG (N : Nat) (p0 : Aa) (p1 : List Int) (p2 : List Am) (p3 : List Ae) : Option (Int × Int × Int) :=
 (G4 N p0 p1 p2 p3).bind fun v1 =>
 some (v1.1, v1.2.1, v1.2.2.2)
def CG (N : Nat) (p2 : List Ae) (j8 : Ai → Option ((Option Ai) × Int × Int)) : Nat → (Ai × Int) → Option ((Option Ai) × Int × Int)
 | 0, _ => none
 | n8 + 1, v8 =>
  AK ((decide (v8.2 < (p2.length : Int))))
   (A7 (fun (v11 : Ai) =>
    CG N p2 j8 n8 ((Ai.mk ((Aa.mk v11.fc.fb v11.fc.fk v11.fc.fo v11.fc.fd)) v11.fq v11.fi v11.ft ((Ac.mk v11.fe.fh v11.fe.ff v11.fe.fg))), (wI .i64 (v8.2 + 1))))
   fun j11 =>
   (Bt p2 v8.2).bind fun v12 =>
   (CW N v12).bind fun v13 =>
   AK ((!v13))
    (j11 (Ai.mk ((Aa.mk v8.1.fc.fb v8.1.fc.fk v8.1.fc.fo v8.1.fc.fd)) v8.1.fq v8.1.fi v8.1.ft ((Ac.mk v8.1.fe.fh v8.1.fe.ff v8.1.fe.fg))))
    ((BQ N ((Ai.mk ((Aa.mk v8.1.fc.fb v8.1.fc.fk v8.1.fc.fo v8.1.fc.fd)) v8.1.fq v8.1.fi v8.1.ft ((Ac.mk v8.1.fe.fh v8.1.fe.ff v8.1.fe.fg)))) v12).bind fun v15 =>
    AK ((!v15))
     (some ((some ((Ai.mk ((Aa.mk v8.1.fc.fb v8.1.fc.fk v8.1.fc.fo v8.1.fc.fd)) v8.1.fq v8.1.fi v8.1.ft ((Ac.mk v8.1.fe.fh v8.1.fe.ff v8.1.fe.fg))))), v8.2, 0))
     ((BF N ((Ai.mk ((Aa.mk v8.1.fc.fb v8.1.fc.fk v8.1.fc.fo v8.1.fc.fd)) v8.1.fq v8.1.fi v8.1.ft ((Ac.mk v8.1.fe.fh v8.1.fe.ff v8.1.fe.fg)))) v12).bind fun v17 =>
     j11 (Ai.mk ((Aa.mk v17.fc.fb v17.fc.fk v17.fc.fo v17.fc.fd)) v17.fq v17.fi v17.ft ((Ac.mk v17.fe.fh v17.fe.ff v17.fe.fg))))))
   (j8 (Ai.mk ((Aa.mk v8.1.fc.fb v8.1.fc.fk v8.1.fc.fo v8.1.fc.fd)) v8.1.fq v8.1.fi v8.1.ft ((Ac.mk v8.1.fe.fh v8.1.fe.ff v8.1.fe.fg))))
def DU (N : Nat) (p0 : Aa) (p1 : List Am) (p2 : List Ae) : Option ((Option Ai) × Int × Int) :=
 (BO N p0).bind fun v1 =>
 AK ((v1 != 0))
  (some ((none : Option Ai), 0, v1))
  ((C2 N p0 p1).bind fun v3 =>
  A7 (fun (v4 : Int) =>
   AK ((v4 != 0))
    (some ((none : Option Ai), 0, v4))
    (CG N p2 (fun (v9 : Ai) =>
     some ((some ((Ai.mk ((Aa.mk v9.fc.fb v9.fc.fk v9.fc.fo v9.fc.fd)) v9.fq v9.fi v9.ft ((Ac.mk v9.fe.fh v9.fe.ff v9.fe.fg))))), (-1), 0)) N ((Ai.mk p0 p1 0 0 v3.1), 0)))
  fun j4 =>
  AK ((v3.2 == 0))
   ((Dh N p2).bind fun v6 =>
   j4 v6)
   (j4 v3.2))
def Ed (N : Nat) (p0 : Aa) (p1 : List Am) (p2 : List Ae) : Option (Ac × Int) :=
 (DU N p0 p1 p2).bind fun v1 =>
 AK ((v1.2.2 != 0))
  (some ((Ac.mk (([] : List Int)) (([] : List Int)) (([] : List Int))), v1.2.2))
  (AK ((decide (0 ≤ v1.2.1)))
   (some ((Ac.mk (([] : List Int)) (([] : List Int)) (([] : List Int))), 11))
   (v1.1.bind fun v4 =>
   some ((Ac.mk v4.fe.fh v4.fe.ff v4.fe.fg), 0)))
def EM (_ : Nat) (p0 p1 : Int) : Option ByteArray := (EL (p1 = 10)).bind fun _ => Mv p0
def EY (N : Nat) (v5 : (List Int)) (j6 : ByteArray → Option ByteArray) : Nat → (ByteArray × Int) → Option ByteArray
 | 0, _ => none
 | n6 + 1, v6 =>
  AK ((decide (v6.2 < (v5.length : Int))))
   ((Bt v5 v6.2).bind fun v9 =>
   (EM N v9 10).bind fun v10 =>
   (EL (((⟨#[32]⟩ : ByteArray)).size + v10.size ≤ 9223372036854775807)).bind fun _ =>
   (EL (v6.1.size + (((⟨#[32]⟩ : ByteArray) ++ v10)).size ≤ 9223372036854775807)).bind fun _ =>
   EY N v5 j6 n6 ((v6.1 ++ ((⟨#[32]⟩ : ByteArray) ++ v10)), (wI .i64 (v6.2 + 1))))
   (j6 v6.1)
def Et (N : Nat) (p0 : Ae) : Option ByteArray :=
 (EM N p0.fi 10).bind fun v1 =>
 (EL (v1.size + ((⟨#[32]⟩ : ByteArray)).size ≤ 9223372036854775807)).bind fun _ =>
 (Eu N p0.fa).bind fun v3 =>
 (EL (((v1 ++ (⟨#[32]⟩ : ByteArray))).size + v3.size ≤ 9223372036854775807)).bind fun _ =>
 (Dv N p0).bind fun v5 =>
 EY N v5 (fun (v7 : ByteArray) =>
  (EL (v7.size + ((⟨#[10]⟩ : ByteArray)).size ≤ 9223372036854775807)).bind fun _ =>
  some ((v7 ++ (⟨#[10]⟩ : ByteArray)))) N (((v1 ++ (⟨#[32]⟩ : ByteArray)) ++ v3), 0)
def DT (line : Ae → Option ByteArray) : List Ae → ByteArray → Option ByteArray
 | [], a => some a
 | x :: xs, a => (line x).bind fun s => (EL (a.size + s.size ≤ 140737488355328)).bind fun _ => DT line xs (a ++ s)
def H8 (N : Nat) (p0 : List Ae) : Option (ByteArray × Int) :=
 (EL (p0.length ≤ 1000000)).bind fun _ =>
 (Dh N p0).bind fun v1 =>
 AK (v1 != 0)
  (some (⟨#[]⟩, v1))
  ((DT (fun x => Et N x) p0 ⟨#[]⟩).bind fun s =>
  AK (decide (65536 < s.size)) (some (⟨#[]⟩, 3)) (some (s, 0)))
def Ht (_ : Nat) (p0 : Int) : Option ByteArray :=
 (Bt (([(⟨#[]⟩ : ByteArray), (⟨#[114, 101, 97, 100]⟩ : ByteArray), (⟨#[111, 114, 100, 101, 114]⟩ : ByteArray), (⟨#[116, 111, 107, 101, 110]⟩ : ByteArray), (⟨#[115, 119, 105, 116, 99, 104]⟩ : ByteArray), (⟨#[109, 105, 120]⟩ : ByteArray)] : List ByteArray)) p0).bind fun v1 =>
 some v1
def H9 (_ : Nat) (p0 : Int) : Option ByteArray := Mv p0
def CM (_ : Nat) (p0 : ByteArray) (p1 : ByteArray) : Option Bool :=
 A7 (fun (v1 : Bool) =>
  some v1)
 fun j1 =>
 AK ((decide ((p1.size : Int) ≤ (p0.size : Int))))
  ((EL ((0 : Int) ≤ (wI .i64 ((p0.size : Int) - (p1.size : Int))) ∧ ((wI .i64 ((p0.size : Int) - (p1.size : Int)))).toNat ≤ p0.size ∧ p0.size ≤ p0.size)).bind fun _ =>
  j1 (((p0.extract (((wI .i64 ((p0.size : Int) - (p1.size : Int)))).toNat) p0.size)).toList == p1.toList))
  (j1 false)
def Cw (N : Nat) (p0 : ByteArray) (p1 : ByteArray) : Option ByteArray :=
 (CM N p0 p1).bind fun v1 =>
 AK v1
  ((EL ((0 : Int) ≤ (wI .i64 ((p0.size : Int) - (p1.size : Int))) ∧ 0 ≤ ((wI .i64 ((p0.size : Int) - (p1.size : Int)))).toNat ∧ ((wI .i64 ((p0.size : Int) - (p1.size : Int)))).toNat ≤ p0.size)).bind fun _ =>
  some ((p0.extract 0 (((wI .i64 ((p0.size : Int) - (p1.size : Int)))).toNat))))
  (some p0)
def Ex (N : Nat) (p0 : ByteArray) (p1 : ByteArray) : Option ByteArray :=
 (Cw N p0 p1).bind fun v1 =>
 some v1
def Gt (N : Nat) (p0 : List Ae) (p1 : Int) (p2 : Int) : Option (ByteArray × Int) :=
 (Dh N p0).bind fun v1 =>
 AK ((v1 != 0))
  (some ((⟨#[]⟩ : ByteArray), v1))
  (A7 (fun (v3 : Bool) =>
   AK v3
    (some ((⟨#[]⟩ : ByteArray), 7))
    (A7 (fun (v6 : Bool) =>
     AK v6
      (some ((⟨#[]⟩ : ByteArray), 1))
      ((EL ((0 : Int) ≤ p1 ∧ (0 : Int) ≤ (wI .i64 (p1 + 1)) ∧ (p1).toNat ≤ ((wI .i64 (p1 + 1))).toNat ∧ ((wI .i64 (p1 + 1))).toNat ≤ p0.length)).bind fun _ =>
      (H8 N (((p0.drop (p1).toNat).take (((wI .i64 (p1 + 1))).toNat - (p1).toNat)))).bind fun v10 =>
      AK ((v10.2 != 0))
       (some ((⟨#[]⟩ : ByteArray), v10.2))
       ((Ht N p2).bind fun v12 =>
       (EL (v12.size + ((⟨#[32]⟩ : ByteArray)).size ≤ 9223372036854775807)).bind fun _ =>
       (H9 N p1).bind fun v14 =>
       (EL (((v12 ++ (⟨#[32]⟩ : ByteArray))).size + v14.size ≤ 9223372036854775807)).bind fun _ =>
       (EL ((((v12 ++ (⟨#[32]⟩ : ByteArray)) ++ v14)).size + ((⟨#[58, 32]⟩ : ByteArray)).size ≤ 9223372036854775807)).bind fun _ =>
       (Ex N v10.1 ((⟨#[10]⟩ : ByteArray))).bind fun v17 =>
       (EL (((((v12 ++ (⟨#[32]⟩ : ByteArray)) ++ v14) ++ (⟨#[58, 32]⟩ : ByteArray))).size + v17.size ≤ 9223372036854775807)).bind fun _ =>
       some (((((v12 ++ (⟨#[32]⟩ : ByteArray)) ++ v14) ++ (⟨#[58, 32]⟩ : ByteArray)) ++ v17), 0))))
    fun j6 =>
    AK ((decide (p2 < 1)))
     (j6 true)
     (j6 (decide (5 < p2)))))
  fun j3 =>
  AK ((decide (p1 < 0)))
   (j3 true)
   (j3 (decide ((p0.length : Int) ≤ p1))))
def De (N : Nat) : Option Bool :=
 (EL ((0 : Int) ≤ 3 ∧ 0 ≤ (3 : Int).toNat ∧ (3 : Int).toNat ≤ (([(Ae.mk 0 7 0 0 0 0 1 0 0 0 0), (Ae.mk 0 2 0 0 0 0 1 0 0 0 0), (Ae.mk 1 6 0 0 0 0 0 1 0 1 0), (Ae.mk 2 3 0 0 0 1 1 0 0 0 0)] : List Ae)).length)).bind fun _ =>
 (FG N ((Aa.mk (([2] : List Int)) (([0] : List Int)) (([1] : List Int)) (([] : List AH)))) (([1] : List Int)) (([(Am.mk 1 0 1), (Am.mk 2 0 0)] : List Am)) ((((([(Ae.mk 0 7 0 0 0 0 1 0 0 0 0), (Ae.mk 0 2 0 0 0 0 1 0 0 0 0), (Ae.mk 1 6 0 0 0 0 0 1 0 1 0), (Ae.mk 2 3 0 0 0 1 1 0 0 0 0)] : List Ae)).drop 0).take ((3 : Int).toNat - 0)))).bind fun v2 =>
 (EL ((0 : Int) ≤ 3 ∧ 0 ≤ (3 : Int).toNat ∧ (3 : Int).toNat ≤ (([(Ae.mk 0 7 0 0 0 0 1 0 0 0 0), (Ae.mk 0 2 0 0 0 0 1 0 0 0 0), (Ae.mk 1 6 0 0 0 0 0 1 0 1 0), (Ae.mk 2 3 0 0 0 1 1 0 0 0 0)] : List Ae)).length)).bind fun _ =>
 (Ed N ((Aa.mk (([2] : List Int)) (([0] : List Int)) (([1] : List Int)) (([] : List AH)))) (([(Am.mk 1 0 1), (Am.mk 2 0 0)] : List Am)) ((((([(Ae.mk 0 7 0 0 0 0 1 0 0 0 0), (Ae.mk 0 2 0 0 0 0 1 0 0 0 0), (Ae.mk 1 6 0 0 0 0 0 1 0 1 0), (Ae.mk 2 3 0 0 0 1 1 0 0 0 0)] : List Ae)).drop 0).take ((3 : Int).toNat - 0)))).bind fun v4 =>
 (FG N ((Aa.mk (([2] : List Int)) (([0] : List Int)) (([1] : List Int)) (([] : List AH)))) (([1] : List Int)) (([(Am.mk 1 0 1), (Am.mk 2 0 0)] : List Am)) (([(Ae.mk 0 7 0 0 0 0 1 0 0 0 0), (Ae.mk 0 2 0 0 0 0 1 0 0 0 0), (Ae.mk 1 6 0 0 0 0 0 1 0 1 0), (Ae.mk 2 3 0 0 0 1 1 0 0 0 0)] : List Ae))).bind fun v5 =>
 (Gt N (([(Ae.mk 0 7 0 0 0 0 1 0 0 0 0), (Ae.mk 0 2 0 0 0 0 1 0 0 0 0), (Ae.mk 1 6 0 0 0 0 0 1 0 1 0), (Ae.mk 2 3 0 0 0 1 1 0 0 0 0)] : List Ae)) 3 2).bind fun v6 =>
 A7 (fun (v7 : Bool) =>
  some v7)
 fun j7 =>
 AK ((v2.2.2 == 15))
  (AK ((v4.2 == 0))
   (AK ((v5.2.2 == 0))
    (AK ((v6.2 == 0))
     (AK (((v4.1.ff.length : Int) == 1))
      ((Bt v4.1.ff 0).bind fun v13 =>
      AK ((v13 == 1))
       (AK ((v5.1 == 3))
        (AK ((v5.2.1 == 2))
         (j7 (v6.1.toList == ((⟨#[111, 114, 100, 101, 114, 32, 51, 58, 32, 50, 32, 100, 111, 110, 101, 32, 49, 32, 49]⟩ : ByteArray)).toList))
         (j7 false))
        (j7 false))
       (j7 false))
      (j7 false))
     (j7 false))
    (j7 false))
   (j7 false))
  (j7 false)
def BB (N : Nat) (p0 : Aa) (v6 : Int) (j14 : Unit → Option Bool) : Nat → Int → Option Bool
 | 0, _ => none
 | n14 + 1, v14 =>
  (Bt p0.fd v6).bind fun v16 =>
  AK ((decide (v14 < (v16.fH.length : Int))))
   ((Bt p0.fd v6).bind fun v18 =>
   (Bt v18.fH v14).bind fun v19 =>
   AK ((decide (8 < (v19.length : Int))))
    (some false)
    (BB N p0 v6 j14 n14 (wI .i64 (v14 + 1))))
   (j14 ())
def Bz (N : Nat) (p0 : Aa) (v6 : Int) (j21 : Unit → Option Bool) : Nat → Int → Option Bool
 | 0, _ => none
 | n21 + 1, v21 =>
  (Bt p0.fd v6).bind fun v23 =>
  AK ((decide (v21 < (v23.fr.length : Int))))
   ((Bt p0.fd v6).bind fun v25 =>
   (Bt v25.fr v21).bind fun v26 =>
   AK ((decide (8 < (v26.length : Int))))
    (some false)
    (Bz N p0 v6 j21 n21 (wI .i64 (v21 + 1))))
   (j21 ())
def Cp (N : Nat) (p0 : Aa) (j6 : Unit → Option Bool) : Nat → Int → Option Bool
 | 0, _ => none
 | n6 + 1, v6 =>
  AK ((decide (v6 < (p0.fd.length : Int))))
   (A7 (fun (v9 : Bool) =>
    AK v9
     (some false)
     (BB N p0 v6 (fun (_ : Unit) =>
      Bz N p0 v6 (fun (_ : Unit) =>
       Cp N p0 j6 n6 (wI .i64 (v6 + 1))) N 0) N 0))
   fun j9 =>
   (Bt p0.fd v6).bind fun v10 =>
   AK ((decide (8 < (v10.fH.length : Int))))
    (j9 true)
    ((Bt p0.fd v6).bind fun v12 =>
    j9 (decide (8 < (v12.fr.length : Int)))))
   (j6 ())
def C4 (N : Nat) (p0 : Aa) : Option Bool :=
 A7 (fun (v1 : Bool) =>
  AK v1
   (some false)
   (Cp N p0 (fun (_ : Unit) =>
    some true) N 0))
 fun j1 =>
 AK ((decide (8 < (p0.fb.length : Int))))
  (j1 true)
  (AK ((decide (8 < (p0.fk.length : Int))))
   (j1 true)
   (AK ((decide (8 < (p0.fo.length : Int))))
    (j1 true)
    (j1 (decide (14 < (p0.fd.length : Int))))))
def B8 (N : Nat) (p0 : B0) : Option Bool :=
 A7 (fun (v1 : Bool) =>
  some v1)
 fun j1 =>
 (C4 N ((Aa.mk p0.fc.fb p0.fc.fk p0.fc.fo p0.fc.fd))).bind fun v2 =>
 AK v2
  (AK ((decide ((p0.fO.length : Int) ≤ 8)))
   (AK ((decide ((p0.fq.length : Int) ≤ 20)))
    (j1 (decide ((p0.fN.length : Int) ≤ 80)))
    (j1 false))
   (j1 false))
  (j1 false)
def Bn (_ : Nat) (p0 : List Ae) : Option ((List Ae)) :=
 (EL ((([] : List Ae)).length + p0.length ≤ GA)).bind fun _ =>
 some ((([] : List Ae)) ++ p0)
def AZ (_ : Nat) (p0 : AH) : Option Bool :=
 A7 (fun (v1 : Bool) =>
  some v1)
 fun j1 =>
 AK ((p0.fa == 3))
  (j1 true)
  (j1 (p0.fa == 4))
def BG (N : Nat) (p0 : List (List Bool)) (p1 : Int) (p2 : Int) (j2 : Unit → Option Bool) : Nat → Int → Option Bool
 | 0, _ => none
 | n2 + 1, v2 =>
  AK ((decide (v2 < p1)))
   ((Bt p0 v2).bind fun v5 =>
   AK (((v5.length : Int) != p2))
    (some false)
    (BG N p0 p1 p2 j2 n2 (wI .i64 (v2 + 1))))
   (j2 ())
def Ct (N : Nat) (p0 : List (List Bool)) (p1 : Int) (p2 : Int) : Option Bool :=
 AK (((p0.length : Int) != p1))
  (some false)
  (BG N p0 p1 p2 (fun (_ : Unit) =>
   some true) N 0)
def Bq (N : Nat) (p1 : AH) (j22 : Unit → Option Int) : Nat → Int → Option Int
 | 0, _ => none
 | n22 + 1, v22 =>
  AK ((decide (v22 < (p1.fr.length : Int))))
   ((Bt p1.fr v22).bind fun v25 =>
   (Bt v25 v22).bind fun v26 =>
   AK ((!v26))
    (some 1)
    (Bq N p1 j22 n22 (wI .i64 (v22 + 1))))
   (j22 ())
def Dl (N : Nat) (p0 : Aa) (p1 : AH) : Option Int :=
 A7 (fun (v1 : Bool) =>
  AK v1
   (some 1)
   (A7 (fun (v7 : Bool) =>
    AK v7
     (some 4)
     ((Bt p0.fb p1.fj).bind fun v12 =>
     (Bt p0.fb p1.fw).bind fun v13 =>
     (Ct N p1.fH v12 v13).bind fun v14 =>
     AK ((!v14))
      (some 6)
      (AK ((p1.fa != 4))
       (AK (((p1.fr.length : Int) != 0))
        (some 6)
        (some 0))
       ((Bt p0.fb p1.fj).bind fun v18 =>
       (Bt p0.fb p1.fj).bind fun v19 =>
       (Ct N p1.fr v18 v19).bind fun v20 =>
       AK ((!v20))
        (some 6)
        (Bq N p1 (fun (_ : Unit) =>
         some 0) N 0)))))
   fun j7 =>
   AK ((decide (p1.fj < 0)))
    (j7 true)
    (AK ((decide ((p0.fb.length : Int) ≤ p1.fj)))
     (j7 true)
     (AK ((decide (p1.fw < 0)))
      (j7 true)
      (j7 (decide ((p0.fb.length : Int) ≤ p1.fw)))))))
 fun j1 =>
 AK ((decide (p1.fa < 1)))
  (j1 true)
  (AK ((decide (4 < p1.fa)))
   (j1 true)
   (AK p1.fM
    ((AZ N p1).bind fun v5 =>
    j1 v5)
    (j1 false)))
def AY (N : Nat) (p0 : Aa) (j7 : Unit → Option Int) : Nat → Int → Option Int
 | 0, _ => none
 | n7 + 1, v7 =>
  AK ((decide (v7 < (p0.fb.length : Int))))
   ((Bt p0.fb v7).bind fun v10 =>
   A7 (fun (v11 : Bool) =>
    AK v11
     (some 7)
     (AY N p0 j7 n7 (wI .i64 (v7 + 1))))
   fun j11 =>
   AK ((decide (v10 < 1)))
    (j11 true)
    (AK ((decide (6 < v10)))
     (j11 true)
     ((Bt p0.fk v7).bind fun v14 =>
     AK ((decide (v14 < 0)))
      (j11 true)
      ((Bt p0.fk v7).bind fun v16 =>
      AK ((decide (v10 ≤ v16)))
       (j11 true)
       ((Bt p0.fo v7).bind fun v18 =>
       AK ((decide (v18 < 0)))
        (j11 true)
        ((Bt p0.fo v7).bind fun v20 =>
        j11 (decide (v10 ≤ v20))))))))
   (j7 ())
def AT (N : Nat) (p0 : Aa) (j22 : Unit → Option Int) : Nat → Int → Option Int
 | 0, _ => none
 | n22 + 1, v22 =>
  AK ((decide (v22 < (p0.fd.length : Int))))
   ((Bt p0.fd v22).bind fun v25 =>
   (Dl N p0 v25).bind fun v26 =>
   AK ((v26 != 0))
    (some v26)
    (AT N p0 j22 n22 (wI .i64 (v22 + 1))))
   (j22 ())
def BH (N : Nat) (p0 : Aa) : Option Int :=
 A7 (fun (v1 : Bool) =>
  AK v1
   (some 3)
   (A7 (fun (v4 : Bool) =>
    AK v4
     (some 6)
     (AY N p0 (fun (_ : Unit) =>
      AT N p0 (fun (_ : Unit) =>
       some 0) N 0) N 0))
   fun j4 =>
   AK (((p0.fk.length : Int) != (p0.fb.length : Int)))
    (j4 true)
    (j4 ((p0.fo.length : Int) != (p0.fb.length : Int)))))
 fun j1 =>
 AK ((decide (6 < (p0.fb.length : Int))))
  (j1 true)
  (j1 (decide (12 < (p0.fd.length : Int))))
def Bu (N : Nat) (p0 : Aa) (j3 : ((List Int) × (List Int)) → Option (Ac × Int)) : Nat → ((List Int) × (List Int) × Int) → Option (Ac × Int)
 | 0, _ => none
 | n3 + 1, v3 =>
  AK ((decide (v3.2.2 < (p0.fb.length : Int))))
   ((Bt p0.fk v3.2.2).bind fun v6 =>
   (EL (v3.1.length + (([v6] : List Int)).length ≤ GA)).bind fun _ =>
   (EL (v3.2.1.length + (([(-1)] : List Int)).length ≤ GA)).bind fun _ =>
   Bu N p0 j3 n3 (v3.1 ++ (([v6] : List Int)), v3.2.1 ++ (([(-1)] : List Int)), (wI .i64 (v3.2.2 + 1))))
   (j3 (v3.1, v3.2.1))
def AX (N : Nat) (p0 : Aa) (j9 : ((List Int)) → Option (Ac × Int)) : Nat → ((List Int) × Int) → Option (Ac × Int)
 | 0, _ => none
 | n9 + 1, v9 =>
  AK ((decide (v9.2 < (p0.fd.length : Int))))
   (A7 (fun (v12 : Int) =>
    (EL (v9.1.length + (([v12] : List Int)).length ≤ GA)).bind fun _ =>
    AX N p0 j9 n9 (v9.1 ++ (([v12] : List Int)), (wI .i64 (v9.2 + 1))))
   fun j12 =>
   (Bt p0.fd v9.2).bind fun v13 =>
   (AZ N v13).bind fun v14 =>
   AK v14
    ((Bt p0.fd v9.2).bind fun v16 =>
    (Bt p0.fk v16.fj).bind fun v17 =>
    (EL (0 ≤ v17)).bind fun _ =>
    j12 (Dm .u8 1 v17))
    (j12 0))
   (j9 v9.1)
def CF (N : Nat) (p0 : Aa) : Option (Ac × Int) :=
 (BH N p0).bind fun v1 =>
 AK ((v1 != 0))
  (some ((Ac.mk (([] : List Int)) (([] : List Int)) (([] : List Int))), v1))
  (Bu N p0 (fun (v4 : (List Int) × (List Int)) =>
   AX N p0 (fun (v10 : (List Int)) =>
    some ((Ac.mk v4.1 v4.2 v10), 0)) N (([] : List Int), 0)) N (([] : List Int), ([] : List Int), 0))
def BW (_ : Nat) (p0 : Ac) (p1 : Int) : Option Int :=
 (Bt p0.fh p1).bind fun v1 =>
 (EL (0 ≤ v1)).bind fun _ =>
 A7 (fun (v3 : Int) =>
  some v3)
 fun j3 =>
 (Bt p0.ff p1).bind fun v4 =>
 AK ((decide (0 ≤ v4)))
  ((Bt p0.ff p1).bind fun v6 =>
  (EL (0 ≤ v6)).bind fun _ =>
  j3 (KS .u8 ((Dm .u8 1 v1)) ((Dm .u8 1 v6))))
  (j3 (Dm .u8 1 v1))
def Bv (N : Nat) (p0 : Aa) (p1 : Ac) (j7 : Unit → Option Int) : Nat → Int → Option Int
 | 0, _ => none
 | n7 + 1, v7 =>
  AK ((decide (v7 < (p0.fb.length : Int))))
   (A7 (fun (v10 : Bool) =>
    AK v10
     (some 7)
     ((Bt p1.fh v7).bind fun v21 =>
     (Bt p1.ff v7).bind fun v22 =>
     AK ((v21 == v22))
      (some 1)
      (Bv N p0 p1 j7 n7 (wI .i64 (v7 + 1)))))
   fun j10 =>
   (Bt p1.fh v7).bind fun v11 =>
   AK ((decide (v11 < 0)))
    (j10 true)
    ((Bt p1.fh v7).bind fun v13 =>
    (Bt p0.fb v7).bind fun v14 =>
    AK ((decide (v14 ≤ v13)))
     (j10 true)
     ((Bt p1.ff v7).bind fun v16 =>
     AK ((decide (v16 < (-1))))
      (j10 true)
      ((Bt p1.ff v7).bind fun v18 =>
      (Bt p0.fb v7).bind fun v19 =>
      j10 (decide (v19 ≤ v18))))))
   (j7 ())
def Bs (N : Nat) (p0 : Aa) (p1 : Ac) (j24 : Unit → Option Int) : Nat → Int → Option Int
 | 0, _ => none
 | n24 + 1, v24 =>
  AK ((decide (v24 < (p0.fd.length : Int))))
   ((Bt p0.fd v24).bind fun v27 =>
   (Bt p0.fb v27.fj).bind fun v28 =>
   (EL (0 ≤ v28)).bind fun _ =>
   A7 (fun (v30 : Bool) =>
    AK v30
     (some 1)
     (Bs N p0 p1 j24 n24 (wI .i64 (v24 + 1))))
   fun j30 =>
   (AZ N v27).bind fun v31 =>
   AK ((!v31))
    ((Bt p1.fg v24).bind fun v33 =>
    AK ((v33 != 0))
     (j30 true)
     ((AZ N v27).bind fun v35 =>
     AK v35
      ((Bt p1.fg v24).bind fun v37 =>
      AK (((Ce .u8 v37 ((wI .u8 ((Dm .u8 1 v28) - 1)))) != 0))
       (j30 true)
       ((BW N p1 v27.fj).bind fun v39 =>
       (Bt p1.fg v24).bind fun v40 =>
       j30 ((Ce .u8 v39 v40) != 0)))
      (j30 false)))
    ((AZ N v27).bind fun v41 =>
    AK v41
     ((Bt p1.fg v24).bind fun v43 =>
     AK (((Ce .u8 v43 ((wI .u8 ((Dm .u8 1 v28) - 1)))) != 0))
      (j30 true)
      ((BW N p1 v27.fj).bind fun v45 =>
      (Bt p1.fg v24).bind fun v46 =>
      j30 ((Ce .u8 v45 v46) != 0)))
     (j30 false)))
   (j24 ())
def CB (N : Nat) (p0 : Aa) (p1 : Ac) : Option Int :=
 (BH N p0).bind fun v1 =>
 AK ((v1 != 0))
  (some v1)
  (A7 (fun (v3 : Bool) =>
   AK v3
    (some 6)
    (Bv N p0 p1 (fun (_ : Unit) =>
     Bs N p0 p1 (fun (_ : Unit) =>
      some 0) N 0) N 0))
  fun j3 =>
  AK (((p1.fh.length : Int) != (p0.fb.length : Int)))
   (j3 true)
   (AK (((p1.ff.length : Int) != (p0.fb.length : Int)))
    (j3 true)
    (j3 ((p1.fg.length : Int) != (p0.fd.length : Int)))))
def Dk (_ : Nat) (p0 : Am) : Option Bool :=
 A7 (fun (v1 : Bool) =>
  some v1)
 fun j1 =>
 AK ((decide (1 ≤ p0.fa)))
  (AK ((decide (p0.fa ≤ 4)))
   (AK ((decide (0 ≤ p0.fm)))
    (AK ((decide (0 ≤ p0.fp)))
     (AK ((p0.fa == 1))
      (j1 true)
      (j1 (p0.fp == 0)))
     (j1 false))
    (j1 false))
   (j1 false))
  (j1 false)
def C6 (_ : Nat) (p0 : Int) (p1 : Int) : Option Bool :=
 (EL (0 ≤ p1)).bind fun _ =>
 some (((Ft .u8 ((FM .u8 p0 p1)) 1) == 1))
def Bp (N : Nat) (p0 : Aa) (p2 : Am) (j12 : ((List Int)) → Option (Ac × Bool)) : Nat → ((List Int) × Int) → Option (Ac × Bool)
 | 0, _ => none
 | n12 + 1, v12 =>
  AK ((decide (v12.2 < (p0.fd.length : Int))))
   (A7 (fun (v15 : (List Int)) =>
    Bp N p0 p2 j12 n12 (v15, (wI .i64 (v12.2 + 1))))
   fun j15 =>
   A7 (fun (v16 : Bool) =>
    AK v16
     ((Bt v12.1 v12.2).bind fun v22 =>
     (EL (0 ≤ p2.fp)).bind fun _ =>
     (Bt v12.1 v12.2).bind fun _ =>
     j15 (v12.1.set ((v12.2).toNat) ((KS .u8 v22 ((Dm .u8 1 p2.fp))))))
     (j15 v12.1))
   fun j16 =>
   (Bt p0.fd v12.2).bind fun v17 =>
   AK ((v17.fj == p2.fm))
    ((Bt p0.fd v12.2).bind fun v19 =>
    (AZ N v19).bind fun v20 =>
    j16 v20)
    (j16 false))
   (j12 v12.1)
def Bb (N : Nat) (p0 : Aa) (p1 : Ac) (p2 : Am) (v32 : AH) (v35 : Int) (j38 : Unit → Option (Ac × Bool)) : Nat → Int → Option (Ac × Bool)
 | 0, _ => none
 | n38 + 1, v38 =>
  (Bt p0.fb v32.fj).bind fun v40 =>
  AK ((decide (v38 < v40)))
   (A7 (fun (v42 : Bool) =>
    A7 (fun (v47 : Bool) =>
     AK v47
      (some ((Ac.mk (([] : List Int)) (([] : List Int)) (([] : List Int))), false))
      (Bb N p0 p1 p2 v32 v35 j38 n38 (wI .i64 (v38 + 1))))
    fun j47 =>
    AK v42
     (AK ((v32.fa == 4))
      ((Bt v32.fr v38).bind fun v50 =>
      (Bt p1.fh v32.fj).bind fun v51 =>
      (Bt v50 v51).bind fun v52 =>
      j47 (!v52))
      (j47 false))
     (j47 false))
   fun j42 =>
   (Bt p1.fg p2.fm).bind fun v43 =>
   (C6 N v43 v38).bind fun v44 =>
   AK v44
    ((C6 N v35 v38).bind fun v46 =>
    j42 (!v46))
    (j42 false))
   (j38 ())
def Br (N : Nat) (p0 : Aa) (p1 : Ac) (p2 : Am) : Option (Ac × Bool) :=
 (EL ((([] : List Int)).length + p1.fh.length ≤ GA)).bind fun _ =>
 (EL ((([] : List Int)).length + p1.ff.length ≤ GA)).bind fun _ =>
 (EL ((([] : List Int)).length + p1.fg.length ≤ GA)).bind fun _ =>
 A7 (fun (v4 : (List Int) × (List Int) × (List Int)) =>
  some ((Ac.mk v4.1 v4.2.1 v4.2.2), true))
 fun j4 =>
 AK ((p2.fa == 1))
  (A7 (fun (v6 : Bool) =>
   AK v6
    (some ((Ac.mk (([] : List Int)) (([] : List Int)) (([] : List Int))), false))
    ((Bt ((([] : List Int)) ++ p1.ff) p2.fm).bind fun _ =>
    Bp N p0 p2 (fun (v13 : (List Int)) =>
     j4 ((([] : List Int)) ++ p1.fh, ((([] : List Int)) ++ p1.ff).set ((p2.fm).toNat) p2.fp, v13)) N ((([] : List Int)) ++ p1.fg, 0)))
  fun j6 =>
  (Bt p1.ff p2.fm).bind fun v7 =>
  AK ((decide (0 ≤ v7)))
   (j6 true)
   ((Bt p1.fh p2.fm).bind fun v9 =>
   j6 (p2.fp == v9)))
  (AK ((p2.fa == 2))
   ((Bt p1.ff p2.fm).bind fun v26 =>
   AK ((decide (v26 < 0)))
    (some ((Ac.mk (([] : List Int)) (([] : List Int)) (([] : List Int))), false))
    ((Bt p1.ff p2.fm).bind fun v28 =>
    (Bt ((([] : List Int)) ++ p1.fh) p2.fm).bind fun _ =>
    (Bt ((([] : List Int)) ++ p1.ff) p2.fm).bind fun _ =>
    j4 (((([] : List Int)) ++ p1.fh).set ((p2.fm).toNat) v28, ((([] : List Int)) ++ p1.ff).set ((p2.fm).toNat) ((-1)), (([] : List Int)) ++ p1.fg)))
   (AK ((p2.fa == 3))
    ((Bt p0.fd p2.fm).bind fun v32 =>
    (AZ N v32).bind fun v33 =>
    AK ((!v33))
     (some ((Ac.mk (([] : List Int)) (([] : List Int)) (([] : List Int))), false))
     ((BW N p1 v32.fj).bind fun v35 =>
     (Bt p1.fg p2.fm).bind fun v36 =>
     AK ((v36 == v35))
      (some ((Ac.mk (([] : List Int)) (([] : List Int)) (([] : List Int))), false))
      (Bb N p0 p1 p2 v32 v35 (fun (_ : Unit) =>
       (Bt ((([] : List Int)) ++ p1.fg) p2.fm).bind fun _ =>
       j4 ((([] : List Int)) ++ p1.fh, (([] : List Int)) ++ p1.ff, ((([] : List Int)) ++ p1.fg).set ((p2.fm).toNat) v35)) N 0)))
    ((Bt p1.ff p2.fm).bind fun v55 =>
    AK ((decide (v55 < 0)))
     (some ((Ac.mk (([] : List Int)) (([] : List Int)) (([] : List Int))), false))
     ((Bt ((([] : List Int)) ++ p1.ff) p2.fm).bind fun _ =>
     j4 ((([] : List Int)) ++ p1.fh, ((([] : List Int)) ++ p1.ff).set ((p2.fm).toNat) ((-1)), (([] : List Int)) ++ p1.fg)))))
def Di (N : Nat) (p0 : Aa) (p1 : Ac) (p2 : Am) : Option (Ac × Int) :=
 (CB N p0 p1).bind fun v1 =>
 AK ((v1 != 0))
  (some ((Ac.mk (([] : List Int)) (([] : List Int)) (([] : List Int))), v1))
  ((Dk N p2).bind fun v3 =>
  AK ((!v3))
   (some ((Ac.mk (([] : List Int)) (([] : List Int)) (([] : List Int))), 1))
   (A7 (fun (v5 : Bool) =>
    AK v5
     (some ((Ac.mk (([] : List Int)) (([] : List Int)) (([] : List Int))), 4))
     (A7 (fun (v11 : Bool) =>
      AK v11
       (some ((Ac.mk (([] : List Int)) (([] : List Int)) (([] : List Int))), 4))
       ((Br N p0 p1 p2).bind fun v15 =>
       AK ((!v15.2))
        (some ((Ac.mk (([] : List Int)) (([] : List Int)) (([] : List Int))), 11))
        (some (v15.1, 0))))
     fun j11 =>
     AK ((p2.fa == 1))
      ((Bt p0.fb p2.fm).bind fun v13 =>
      j11 (decide (v13 ≤ p2.fp)))
      (j11 false)))
   fun j5 =>
   AK ((p2.fa == 3))
    (AK ((decide ((p0.fd.length : Int) ≤ p2.fm)))
     (j5 true)
     (AK ((p2.fa != 3))
      (j5 (decide ((p0.fb.length : Int) ≤ p2.fm)))
      (j5 false)))
    (AK ((p2.fa != 3))
     (j5 (decide ((p0.fb.length : Int) ≤ p2.fm)))
     (j5 false))))
def Cs (N : Nat) (p0 : Aa) (p2 : List Am) (j3 : ((List Ac)) → Option ((List Ac) × Int × Int)) : Nat → ((List Ac) × Int) → Option ((List Ac) × Int × Int)
 | 0, _ => none
 | n3 + 1, v3 =>
  AK ((decide (v3.2 < (p2.length : Int))))
   ((Bt v3.1 v3.2).bind fun v6 =>
   (Bt p2 v3.2).bind fun v7 =>
   (Di N p0 v6 v7).bind fun v8 =>
   AK ((v8.2 != 0))
    (some (([] : List Ac), v3.2, v8.2))
    ((EL (v3.1.length + (([v8.1] : List Ac)).length ≤ GA)).bind fun _ =>
    Cs N p0 p2 j3 n3 (v3.1 ++ (([v8.1] : List Ac)), (wI .i64 (v3.2 + 1)))))
   (j3 v3.1)
def C3 (N : Nat) (p0 : Aa) (p1 : Ac) (p2 : List Am) : Option ((List Ac) × Int × Int) :=
 (CB N p0 p1).bind fun v1 =>
 AK ((v1 != 0))
  (some (([] : List Ac), 0, v1))
  (Cs N p0 p2 (fun (v4 : (List Ac)) =>
   some (v4, (p2.length : Int), 0)) N (([p1] : List Ac), 0))
def B5 (N : Nat) (p1 : List Am) (j3 : Unit → Option Int) : Nat → Int → Option Int
 | 0, _ => none
 | n3 + 1, v3 =>
  AK ((decide (v3 < (p1.length : Int))))
   ((Bt p1 v3).bind fun v6 =>
   AK ((v6.fa == 4))
    (some 1)
    (B5 N p1 j3 n3 (wI .i64 (v3 + 1))))
   (j3 ())
def Dj (N : Nat) (p0 : Aa) (p1 : List Am) : Option Int :=
 (CF N p0).bind fun v1 =>
 AK ((v1.2 != 0))
  (some v1.2)
  (B5 N p1 (fun (_ : Unit) =>
   (C3 N p0 v1.1 p1).bind fun v8 =>
   some v8.2.2) N 0)
def Cr (_ : Nat) (p0 : Ae) : Option ((List Int)) :=
 AK ((p0.fa == 1))
  (some (([p0.fF, p0.fD, p0.fG] : List Int)))
  (AK ((p0.fa == 6))
   (some (([p0.fE, p0.fp, p0.fI] : List Int)))
   (AK ((p0.fa == 7))
    (some (([p0.fK, p0.fy] : List Int)))
    (some (([p0.fm, p0.fy] : List Int)))))
def Ck (_ : Nat) (p0 : Int) (p1 : Int) (p2 : List Int) : Option Ae :=
 A7 (fun (v1 : Int × Int × Int × Int × Int × Int × Int × Int × Int) =>
  some ((Ae.mk p0 p1 v1.1 v1.2.1 v1.2.2.1 v1.2.2.2.1 v1.2.2.2.2.1 v1.2.2.2.2.2.1 v1.2.2.2.2.2.2.1 v1.2.2.2.2.2.2.2.1 v1.2.2.2.2.2.2.2.2)))
 fun j1 =>
 AK ((p1 == 1))
  ((Bt p2 0).bind fun v3 =>
  (Bt p2 1).bind fun v4 =>
  (Bt p2 2).bind fun v5 =>
  j1 (v3, v4, v5, 0, 0, 0, 0, 0, 0))
  (AK ((p1 == 6))
   ((Bt p2 0).bind fun v7 =>
   (Bt p2 1).bind fun v8 =>
   (Bt p2 2).bind fun v9 =>
   j1 (0, 0, 0, 0, 0, v9, v7, v8, 0))
   (AK ((p1 == 7))
    ((Bt p2 0).bind fun v11 =>
    (Bt p2 1).bind fun v12 =>
    j1 (0, 0, 0, 0, v12, 0, 0, 0, v11))
    ((Bt p2 0).bind fun v13 =>
    (Bt p2 1).bind fun v14 =>
    j1 (0, 0, 0, v13, v14, 0, 0, 0, 0))))
def BR (N : Nat) (v5 : (List Int)) (j6 : Unit → Option Bool) : Nat → Int → Option Bool
 | 0, _ => none
 | n6 + 1, v6 =>
  AK ((decide (v6 < (v5.length : Int))))
   ((Bt v5 v6).bind fun v9 =>
   AK ((decide (v9 < 0)))
    (some false)
    (BR N v5 j6 n6 (wI .i64 (v6 + 1))))
   (j6 ())
def Df (N : Nat) (p0 : Ae) : Option Bool :=
 A7 (fun (v1 : Bool) =>
  AK v1
   (some false)
   ((Cr N p0).bind fun v5 =>
   BR N v5 (fun (_ : Unit) =>
    (Ck N p0.fi p0.fa v5).bind fun v11 =>
    some (((v11.fi == p0.fi) && ((v11.fa == p0.fa) && ((v11.fF == p0.fF) && ((v11.fD == p0.fD) && ((v11.fG == p0.fG) && ((v11.fm == p0.fm) && ((v11.fy == p0.fy) && ((v11.fI == p0.fI) && ((v11.fE == p0.fE) && ((v11.fp == p0.fp) && ((v11.fK == p0.fK) && true))))))))))))) N 0))
 fun j1 =>
 AK ((decide (p0.fa < 1)))
  (j1 true)
  (AK ((decide (7 < p0.fa)))
   (j1 true)
   (j1 (decide (p0.fi < 0))))
def B4 (N : Nat) (p0 : List Ae) (j2 : Unit → Option Int) : Nat → Int → Option Int
 | 0, _ => none
 | n2 + 1, v2 =>
  AK ((decide (v2 < (p0.length : Int))))
   (A7 (fun (v5 : Bool) =>
    AK v5
     (some 1)
     (B4 N p0 j2 n2 (wI .i64 (v2 + 1))))
   fun j5 =>
   (Bt p0 v2).bind fun v6 =>
   (Df N v6).bind fun v7 =>
   AK ((!v7))
    (j5 true)
    (AK ((decide (0 < v2)))
     ((Bt p0 v2).bind fun v10 =>
     (Bt p0 ((wI .i64 (v2 - 1)))).bind fun v11 =>
     j5 (decide (v10.fi < v11.fi)))
     (j5 false)))
   (j2 ())
def Dd (N : Nat) (p0 : List Ae) : Option Int :=
 AK ((decide (10000 < (p0.length : Int))))
  (some 3)
  (B4 N p0 (fun (_ : Unit) =>
   some 0) N 0)
def DV (N : Nat) (p0 : Aa) : Option AA :=
 (CF N p0).bind fun v1 =>
 some ((AA.mk 0 false false v1.1))
def DR (_ : Nat) (p0 : Ae) : Option Bool :=
 A7 (fun (v1 : Bool) =>
  some v1)
 fun j1 =>
 AK ((decide (2 ≤ p0.fa)))
  (j1 (decide (p0.fa ≤ 5)))
  (j1 false)
def Cz (N : Nat) (p0 : Aa) (p1 : List Am) (p2 : AA) (p3 : Ae) : Option (AA × Bool) :=
 (DR N p3).bind fun v1 =>
 AK ((!v1))
  (some ((AA.mk p2.fi p2.fv p2.fu ((Ac.mk p2.fe.fh p2.fe.ff p2.fe.fg))), true))
  (A7 (fun (v3 : Bool) =>
   AK v3
    (some ((AA.mk p2.fi p2.fv p2.fu ((Ac.mk p2.fe.fh p2.fe.ff p2.fe.fg))), false))
    ((Bt p1 p2.fi).bind fun v6 =>
    A7 (fun (v7 : Int × Bool × Bool × (List Int) × (List Int) × (List Int)) =>
     some ((AA.mk v7.1 v7.2.1 v7.2.2.1 ((Ac.mk v7.2.2.2.1 v7.2.2.2.2.1 v7.2.2.2.2.2))), true))
    fun j7 =>
    A7 (fun (v8 : Bool) =>
     AK v8
      (AK ((v6.fa == 1))
       ((Br N p0 ((Ac.mk p2.fe.fh p2.fe.ff p2.fe.fg)) v6).bind fun v13 =>
       j7 (p2.fi, true, p2.fu, v13.1.fh, v13.1.ff, v13.1.fg))
       (j7 (p2.fi, true, p2.fu, p2.fe.fh, p2.fe.ff, p2.fe.fg)))
      (A7 (fun (v14 : Bool) =>
       AK v14
        (AK ((v6.fa != 1))
         ((Br N p0 ((Ac.mk p2.fe.fh p2.fe.ff p2.fe.fg)) v6).bind fun v18 =>
         j7 ((wI .i64 (p2.fi + 1)), false, p2.fu, v18.1.fh, v18.1.ff, v18.1.fg))
         (j7 ((wI .i64 (p2.fi + 1)), false, p2.fu, p2.fe.fh, p2.fe.ff, p2.fe.fg)))
        (A7 (fun (v19 : Bool) =>
         AK v19
          (j7 (p2.fi, false, true, p2.fe.fh, p2.fe.ff, p2.fe.fg))
          (A7 (fun (v23 : Bool) =>
           AK v23
            ((Br N p0 ((Ac.mk p2.fe.fh p2.fe.ff p2.fe.fg)) ((Am.mk 4 v6.fm 0))).bind fun v26 =>
            j7 (p2.fi, p2.fv, false, v26.1.fh, v26.1.ff, v26.1.fg))
            (some ((AA.mk p2.fi p2.fv p2.fu ((Ac.mk p2.fe.fh p2.fe.ff p2.fe.fg))), false)))
          fun j23 =>
          AK ((p3.fa == 5))
           (j23 p2.fu)
           (j23 false)))
        fun j19 =>
        AK ((p3.fa == 4))
         (AK p2.fv
          (j19 (v6.fa == 1))
          (j19 false))
         (j19 false)))
      fun j14 =>
      AK ((p3.fa == 3))
       (j14 p2.fv)
       (j14 false)))
    fun j8 =>
    AK ((p3.fa == 2))
     (AK ((!p2.fv))
      (j8 (!p2.fu))
      (j8 false))
     (j8 false)))
  fun j3 =>
  AK ((p3.fm != p2.fi))
   (j3 true)
   (j3 (decide ((p1.length : Int) ≤ p2.fi))))
def Cf (N : Nat) (p0 : Aa) (p1 : List Am) (p2 : List Ae) (j2 : AA → Option (AA × Int)) : Nat → (Int × Bool × Bool × (List Int) × (List Int) × (List Int) × Int) → Option (AA × Int)
 | 0, _ => none
 | n2 + 1, v2 =>
  AK ((decide (v2.2.2.2.2.2.2 < (p2.length : Int))))
   ((Bt p2 v2.2.2.2.2.2.2).bind fun v5 =>
   (Cz N p0 p1 ((AA.mk v2.1 v2.2.1 v2.2.2.1 ((Ac.mk v2.2.2.2.1 v2.2.2.2.2.1 v2.2.2.2.2.2.1)))) v5).bind fun v6 =>
   AK ((!v6.2))
    (some ((AA.mk v2.1 v2.2.1 v2.2.2.1 ((Ac.mk v2.2.2.2.1 v2.2.2.2.2.1 v2.2.2.2.2.2.1))), v2.2.2.2.2.2.2))
    (Cf N p0 p1 p2 j2 n2 (v6.1.fi, v6.1.fv, v6.1.fu, v6.1.fe.fh, v6.1.fe.ff, v6.1.fe.fg, (wI .i64 (v2.2.2.2.2.2.2 + 1)))))
   (j2 (AA.mk v2.1 v2.2.1 v2.2.2.1 ((Ac.mk v2.2.2.2.1 v2.2.2.2.2.1 v2.2.2.2.2.2.1))))
def DC (N : Nat) (p0 : Aa) (p1 : List Am) (p2 : List Ae) : Option (AA × Int) :=
 (DV N p0).bind fun v1 =>
 Cf N p0 p1 p2 (fun (v3 : AA) =>
  some ((AA.mk v3.fi v3.fv v3.fu ((Ac.mk v3.fe.fh v3.fe.ff v3.fe.fg))), (-1))) N (v1.fi, v1.fv, v1.fu, v1.fe.fh, v1.fe.ff, v1.fe.fg, 0)
def C7 (N : Nat) (p0 : Aa) (p1 : List Am) (p2 : List Ae) : Option (Ac × Int) :=
 (Dj N p0 p1).bind fun v1 =>
 AK ((v1 != 0))
  (some ((Ac.mk (([] : List Int)) (([] : List Int)) (([] : List Int))), v1))
  ((Dd N p2).bind fun v3 =>
  AK ((v3 != 0))
   (some ((Ac.mk (([] : List Int)) (([] : List Int)) (([] : List Int))), v3))
   ((DC N p0 p1 p2).bind fun v5 =>
   AK ((decide (0 ≤ v5.2)))
    (some ((Ac.mk (([] : List Int)) (([] : List Int)) (([] : List Int))), 11))
    (some ((Ac.mk v5.1.fe.fh v5.1.fe.ff v5.1.fe.fg), 0))))
def Ca (N : Nat) (p0 : List Int) (p1 : List Int) (j1 : Unit → Option Int) : Nat → Int → Option Int
 | 0, _ => none
 | n1 + 1, v1 =>
  A7 (fun (v3 : Bool) =>
   AK v3
    ((Bt p0 v1).bind fun v6 =>
    (Bt p1 v1).bind fun v7 =>
    AK ((decide (v6 < v7)))
     (some ((-1)))
     ((Bt p0 v1).bind fun v9 =>
     (Bt p1 v1).bind fun v10 =>
     AK ((decide (v10 < v9)))
      (some 1)
      (Ca N p0 p1 j1 n1 (wI .i64 (v1 + 1)))))
    (j1 ()))
  fun j3 =>
  AK ((decide (v1 < (p0.length : Int))))
   (j3 (decide (v1 < (p1.length : Int))))
   (j3 false)
def Cl (N : Nat) (p0 : List Int) (p1 : List Int) : Option Int :=
 Ca N p0 p1 (fun (_ : Unit) =>
  AK ((decide ((p0.length : Int) < (p1.length : Int))))
   (some ((-1)))
   (AK ((decide ((p1.length : Int) < (p0.length : Int))))
    (some 1)
    (some 0))) N 0
def BV (N : Nat) (p0 : List Int) (j1 : ((List Int)) → Option ((List Int))) : Nat → ((List Int) × Int) → Option ((List Int))
 | 0, _ => none
 | n1 + 1, v1 =>
  AK ((decide (v1.2 < (p0.length : Int))))
   ((Bt p0 v1.2).bind fun v4 =>
   (EL (v1.1.length + (([(wI .i64 v4)] : List Int)).length ≤ GA)).bind fun _ =>
   BV N p0 j1 n1 (v1.1 ++ (([(wI .i64 v4)] : List Int)), (wI .i64 (v1.2 + 1))))
   (j1 v1.1)
def Cc (N : Nat) (p0 : List Int) : Option ((List Int)) :=
 BV N p0 (fun (v2 : (List Int)) =>
  some v2) N (([] : List Int), 0)
def CT (N : Nat) (p0 : Ac) (p1 : Ac) : Option Int :=
 (Cl N p0.fh p1.fh).bind fun v1 =>
 AK ((v1 != 0))
  (some v1)
  ((Cl N p0.ff p1.ff).bind fun v3 =>
  AK ((v3 != 0))
   (some v3)
   ((Cc N p0.fg).bind fun v5 =>
   (Cc N p1.fg).bind fun v6 =>
   (Cl N v5 v6).bind fun v7 =>
   some v7))
def BU (N : Nat) (p0 : Ac) (p1 : Ac) : Option Bool :=
 (CT N p0 p1).bind fun v1 =>
 some ((v1 == 0))
def CI (N : Nat) (p0 : B0) : Option Bool :=
 A7 (fun (v1 : Bool) =>
  AK v1
   ((De N).bind fun v6 =>
   some v6)
   ((Bn N p0.fN).bind fun v7 =>
   (Ed N ((Aa.mk p0.fc.fb p0.fc.fk p0.fc.fo p0.fc.fd)) p0.fq v7).bind fun v8 =>
   (C7 N ((Aa.mk p0.fc.fb p0.fc.fk p0.fc.fo p0.fc.fd)) p0.fq p0.fN).bind fun v9 =>
   A7 (fun (v10 : Bool) =>
    some v10)
   fun j10 =>
   AK ((v8.2 == v9.2))
    ((BU N v8.1 v9.1).bind fun v12 =>
    j10 v12)
    (j10 false)))
 fun j1 =>
 (De N).bind fun v2 =>
 AK ((!v2))
  (j1 true)
  ((B8 N ((B0.mk ((Aa.mk p0.fc.fb p0.fc.fk p0.fc.fo p0.fc.fd)) p0.fO p0.fq p0.fN))).bind fun v4 =>
  j1 (!v4))
def Jt {α : Type} (w : α → Prop) (xs : List α) : Prop := ∀ x, x ∈ xs → w x
def GI (n : Int) : Prop := (Lit.int .i64 n).wf = true
def M7 (n : Int) : Prop := (Lit.int .u8 n).wf = true
def J7 (x : AH) : Prop := GI x.fa ∧ GI x.fj ∧ GI x.fw ∧ (fun _ => True) x.fM ∧ (Jt (Jt (fun _ => True))) x.fH ∧ (Jt (Jt (fun _ => True))) x.fr ∧ True
def Kx (x : Aa) : Prop := (Jt GI) x.fb ∧ (Jt GI) x.fk ∧ (Jt GI) x.fo ∧ (Jt J7) x.fd ∧ True
def Lz (x : Am) : Prop := GI x.fa ∧ GI x.fm ∧ GI x.fp ∧ True
def Kb (x : Ae) : Prop := GI x.fi ∧ GI x.fa ∧ GI x.fF ∧ GI x.fD ∧ GI x.fG ∧ GI x.fm ∧ GI x.fy ∧ GI x.fI ∧ GI x.fE ∧ GI x.fp ∧ GI x.fK ∧ True
def Gq (x : B0) : Prop := Kx x.fc ∧ (Jt GI) x.fO ∧ (Jt Lz) x.fq ∧ (Jt Kb) x.fN ∧ True
open Go.RowKit
open Go.Proofs
abbrev CA (x : AH) : List C := [iC x.fa, iC x.fj, iC x.fw, .pure (.val (.bool x.fM)), sC (x.fH.map (K5 eB)), sC (x.fr.map (K5 eB))]
abbrev Al (x : Aa) : List C := [sC (x.fb.map Ar), sC (x.fk.map Ar), sC (x.fo.map Ar), sC (x.fd.map Bw)]
abbrev BL (x : Am) : List C := [iC x.fa, iC x.fm, iC x.fp]
abbrev A6 (x : Ae) : List C := [iC x.fi, iC x.fa, iC x.fF, iC x.fD, iC x.fG, iC x.fm, iC x.fy, iC x.fI, iC x.fE, iC x.fp, iC x.fK]
abbrev Gp (x : B0) : List C := [sC (x.fc.fb.map Ar), sC (x.fc.fk.map Ar), sC (x.fc.fo.map Ar), sC (x.fc.fd.map Bw), sC (x.fO.map Ar), sC (x.fq.map AO), sC (x.fN.map AL)]
abbrev A0 (x : Ac) : List C := [sC (x.fh.map Ar), sC (x.ff.map Ar), sC (x.fg.map C1)]
abbrev Ay (x : Ai) : List C := [sC (x.fc.fb.map Ar), sC (x.fc.fk.map Ar), sC (x.fc.fo.map Ar), sC (x.fc.fd.map Bw), sC (x.fq.map AO), iC x.fi, iC x.ft, sC (x.fe.fh.map Ar), sC (x.fe.ff.map Ar), sC (x.fe.fg.map C1)]
abbrev AS (x : AA) : List C := [iC x.fi, .pure (.val (.bool x.fv)), .pure (.val (.bool x.fu)), sC (x.fe.fh.map Ar), sC (x.fe.ff.map Ar), sC (x.fe.fg.map C1)]
theorem Aw : Tryz.prog.follows .mixedOrders = true := by kernel_rfl
theorem wq {X : Gg} {y : Code} {id : Nat} {ops : Array Oper} {dr : Bool} {Q : Exit → St → Prop} {st : St} {n : Nat} (hn : ops.size = n) (h : A4 uS X ops dr (fun st' => W uS X y Q st') n 0 st []) : W uS X (.seq (.region id ops dr) y) Q st := WL Aw hn h
theorem wp {X : Gg} {y z : Code} {id : Nat} {ops : Array Oper} {dr : Bool} {Q : Exit → St → Prop} {st : St} {n : Nat} (hn : ops.size = n) (h : A4 uS X ops dr (fun st' => W uS X y (MW (W uS X z Q) Q) st') n 0 st []) : W uS X (.seq (.seq (.region id ops dr) y) z) Q st := AQ (WL Aw hn h)
theorem E7 : DY uS 110 false = true := by kernel_rfl
theorem ER : DY uS 112 true = true := by kernel_rfl
theorem GZ : DY uS 113 false = true := by kernel_rfl
theorem J2 : DY uS 125 false = true := by kernel_rfl
theorem Tf : DY uS 164 false = true := by kernel_rfl
theorem HA : DY uS 2 false = true := by kernel_rfl
theorem Bc : DY uS 22 false = true := by kernel_rfl
theorem EW : DY uS 23 false = true := by kernel_rfl
theorem DI : DY uS 25 true = true := by kernel_rfl
theorem Qe : DY uS 26 false = true := by kernel_rfl
theorem Up : DY uS 27 false = true := by kernel_rfl
theorem We : DY uS 29 true = true := by kernel_rfl
theorem A5 : DY uS 3 false = true := by kernel_rfl
theorem FT : DY uS 37 true = true := by kernel_rfl
theorem Gx : DY uS 38 false = true := by kernel_rfl
theorem Qq : DY uS 4 false = true := by kernel_rfl
theorem BE : DY uS 40 true = true := by kernel_rfl
theorem If : DY uS 67 true = true := by kernel_rfl
theorem Jh : DY uS 73 true = true := by kernel_rfl
theorem WK : DY uS 9 false = true := by kernel_rfl
theorem RM : RW uS 209 8 9 = true := by kernel_rfl
theorem Nh : FX uS 113 1 = true := by kernel_rfl
theorem Pi : FX uS 3 8 = true := by kernel_rfl
theorem UZ : FX uS 37 88 = true := by kernel_rfl
theorem Tn : FX uS 40 72 = true := by kernel_rfl
theorem DJ : Bk uS 112 0 0 = true := by kernel_rfl
theorem Ci : Bk uS 112 1 1 = true := by kernel_rfl
theorem G5 : Bk uS 112 2 2 = true := by kernel_rfl
theorem OE : Bk uS 112 3 3 = true := by kernel_rfl
theorem Hb : Bk uS 112 4 4 = true := by kernel_rfl
theorem DW : Bk uS 112 5 5 = true := by kernel_rfl
theorem OF : Bk uS 166 0 0 = true := by kernel_rfl
theorem N2 : Bk uS 166 1 1 = true := by kernel_rfl
theorem OS : Bk uS 166 2 2 = true := by kernel_rfl
theorem ON : Bk uS 166 3 3 = true := by kernel_rfl
theorem BI : Bk uS 25 0 0 = true := by kernel_rfl
theorem FI : Bk uS 25 1 1 = true := by kernel_rfl
theorem IL : Bk uS 25 2 2 = true := by kernel_rfl
theorem BJ : Bk uS 25 3 3 = true := by kernel_rfl
theorem NJ : Bk uS 29 0 0 = true := by kernel_rfl
theorem SP : Bk uS 29 1 4 = true := by kernel_rfl
theorem Nv : Bk uS 29 2 5 = true := by kernel_rfl
theorem M4 : Bk uS 29 3 6 = true := by kernel_rfl
theorem GG : Bk uS 37 0 0 = true := by kernel_rfl
theorem CQ : Bk uS 37 1 1 = true := by kernel_rfl
theorem JS : Bk uS 37 10 10 = true := by kernel_rfl
theorem Hj : Bk uS 37 2 2 = true := by kernel_rfl
theorem Hm : Bk uS 37 3 3 = true := by kernel_rfl
theorem H4 : Bk uS 37 4 4 = true := by kernel_rfl
theorem IS : Bk uS 37 5 5 = true := by kernel_rfl
theorem Fb : Bk uS 37 6 6 = true := by kernel_rfl
theorem IM : Bk uS 37 7 7 = true := by kernel_rfl
theorem HW : Bk uS 37 8 8 = true := by kernel_rfl
theorem JW : Bk uS 37 9 9 = true := by kernel_rfl
theorem CL : Bk uS 40 0 0 = true := by kernel_rfl
theorem BK : Bk uS 40 1 1 = true := by kernel_rfl
theorem Co : Bk uS 40 2 2 = true := by kernel_rfl
theorem CU : Bk uS 67 0 0 = true := by kernel_rfl
theorem Dt : Bk uS 67 1 1 = true := by kernel_rfl
theorem Fc : Bk uS 67 2 2 = true := by kernel_rfl
theorem JF : Bk uS 73 0 0 = true := by kernel_rfl
theorem IR : Bk uS 73 1 1 = true := by kernel_rfl
theorem K0 : Bk uS 73 2 2 = true := by kernel_rfl
theorem HZ : Bk uS 73 3 3 = true := by kernel_rfl
theorem Ng : Bk uS 81 0 0 = true := by kernel_rfl
theorem ND : Bk uS 81 1 4 = true := by kernel_rfl
theorem IK : Bk uS 81 2 5 = true := by kernel_rfl
theorem Ho : Bk uS 81 3 6 = true := by kernel_rfl
theorem J1 : Bk uS 81 4 7 = true := by kernel_rfl
theorem VU : Az uS 101 = true := by kernel_rfl
theorem PW : Az uS 102 = true := by kernel_rfl
theorem UE : Az uS 103 = true := by kernel_rfl
theorem U5 : Az uS 106 = true := by kernel_rfl
theorem Vd : Az uS 107 = true := by kernel_rfl
theorem U1 : Az uS 108 = true := by kernel_rfl
theorem Vz : Az uS 109 = true := by kernel_rfl
theorem VG : Az uS 11 = true := by kernel_rfl
theorem VL : Az uS 110 = true := by kernel_rfl
theorem UR : Az uS 111 = true := by kernel_rfl
theorem Va : Az uS 112 = true := by kernel_rfl
theorem Vc : Az uS 113 = true := by kernel_rfl
theorem UA : Az uS 114 = true := by kernel_rfl
theorem Ry : Az uS 115 = true := by kernel_rfl
theorem U2 : Az uS 116 = true := by kernel_rfl
theorem RS : Az uS 117 = true := by kernel_rfl
theorem VD : Az uS 118 = true := by kernel_rfl
theorem Tm : Az uS 119 = true := by kernel_rfl
theorem Wk : Az uS 12 = true := by kernel_rfl
theorem TB : Az uS 120 = true := by kernel_rfl
theorem UL : Az uS 121 = true := by kernel_rfl
theorem Vm : Az uS 122 = true := by kernel_rfl
theorem VR : Az uS 123 = true := by kernel_rfl
theorem Tt : Az uS 125 = true := by kernel_rfl
theorem Uy : Az uS 127 = true := by kernel_rfl
theorem UT : Az uS 13 = true := by kernel_rfl
theorem Wp : Az uS 14 = true := by kernel_rfl
theorem TA : Az uS 143 = true := by kernel_rfl
theorem VW : Az uS 144 = true := by kernel_rfl
theorem Tl : Az uS 145 = true := by kernel_rfl
theorem VM : Az uS 147 = true := by kernel_rfl
theorem UK : Az uS 148 = true := by kernel_rfl
theorem RV : Az uS 149 = true := by kernel_rfl
theorem U8 : Az uS 150 = true := by kernel_rfl
theorem Tp : Az uS 151 = true := by kernel_rfl
theorem TD : Az uS 152 = true := by kernel_rfl
theorem TE : Az uS 153 = true := by kernel_rfl
theorem Tj : Az uS 154 = true := by kernel_rfl
theorem U4 : Az uS 155 = true := by kernel_rfl
theorem Ux : Az uS 156 = true := by kernel_rfl
theorem VX : Az uS 157 = true := by kernel_rfl
theorem VP : Az uS 16 = true := by kernel_rfl
theorem Wm : Az uS 17 = true := by kernel_rfl
theorem UW : Az uS 173 = true := by kernel_rfl
theorem UJ : Az uS 174 = true := by kernel_rfl
theorem UI : Az uS 175 = true := by kernel_rfl
theorem Uz : Az uS 176 = true := by kernel_rfl
theorem Vb : Az uS 177 = true := by kernel_rfl
theorem US : Az uS 178 = true := by kernel_rfl
theorem UO : Az uS 179 = true := by kernel_rfl
theorem Wt : Az uS 18 = true := by kernel_rfl
theorem UF : Az uS 180 = true := by kernel_rfl
theorem VJ : Az uS 189 = true := by kernel_rfl
theorem WE : Az uS 19 = true := by kernel_rfl
theorem Vj : Az uS 190 = true := by kernel_rfl
theorem UM : Az uS 191 = true := by kernel_rfl
theorem VB : Az uS 192 = true := by kernel_rfl
theorem UN : Az uS 193 = true := by kernel_rfl
theorem Tu : Az uS 197 = true := by kernel_rfl
theorem UV : Az uS 198 = true := by kernel_rfl
theorem Vs : Az uS 199 = true := by kernel_rfl
theorem U3 : Az uS 200 = true := by kernel_rfl
theorem VO : Az uS 22 = true := by kernel_rfl
theorem Wi : Az uS 33 = true := by kernel_rfl
theorem Wo : Az uS 34 = true := by kernel_rfl
theorem Wf : Az uS 35 = true := by kernel_rfl
theorem Wv : Az uS 36 = true := by kernel_rfl
theorem WI : Az uS 37 = true := by kernel_rfl
theorem V3 : Az uS 39 = true := by kernel_rfl
theorem V6 : Az uS 40 = true := by kernel_rfl
theorem Wr : Az uS 41 = true := by kernel_rfl
theorem WB : Az uS 42 = true := by kernel_rfl
theorem T2 : Az uS 43 = true := by kernel_rfl
theorem Wn : Az uS 44 = true := by kernel_rfl
theorem V4 : Az uS 45 = true := by kernel_rfl
theorem Wz : Az uS 46 = true := by kernel_rfl
theorem WG : Az uS 47 = true := by kernel_rfl
theorem UG : Az uS 55 = true := by kernel_rfl
theorem O5 : Az uS 56 = true := by kernel_rfl
theorem Uh : Az uS 57 = true := by kernel_rfl
theorem Sz : Az uS 59 = true := by kernel_rfl
theorem Wd : Az uS 62 = true := by kernel_rfl
theorem WF : Az uS 64 = true := by kernel_rfl
theorem WA : Az uS 66 = true := by kernel_rfl
theorem WJ : Az uS 70 = true := by kernel_rfl
theorem Wb : Az uS 71 = true := by kernel_rfl
theorem UP : Az uS 72 = true := by kernel_rfl
theorem V8 : Az uS 73 = true := by kernel_rfl
theorem VV : Az uS 74 = true := by kernel_rfl
theorem Wa : Az uS 75 = true := by kernel_rfl
theorem R8 : Az uS 76 = true := by kernel_rfl
theorem Vq : Az uS 79 = true := by kernel_rfl
theorem SX : Az uS 80 = true := by kernel_rfl
theorem VF : Az uS 81 = true := by kernel_rfl
theorem VS : Az uS 82 = true := by kernel_rfl
theorem Wx : Az uS 83 = true := by kernel_rfl
theorem T5 : Az uS 84 = true := by kernel_rfl
theorem UU : Az uS 85 = true := by kernel_rfl
theorem Wh : Az uS 86 = true := by kernel_rfl
theorem Ws : Az uS 92 = true := by kernel_rfl
theorem TH : Nt uS 214 .u64 = true := by kernel_rfl
theorem PJ : Nt uS 234 .u64 = true := by kernel_rfl
theorem PV : Nt uS 242 .u32 = true := by kernel_rfl
theorem Wl : Nt uS 3 .i64 = true := by kernel_rfl
theorem VE : Tryz.prog.underlying 3 = some (.int .i64) := by kernel_rfl
theorem Po : Tryz.prog.underlying 164 = some (.map 3 3) := by kernel_rfl
theorem Ve : Ge uS 166 = some [(0, 1), (1, 1), (2, 1), (3, 1)] := by kernel_rfl
theorem V9 : Ge uS 25 = some [(0, 1), (1, 1), (2, 1), (3, 1)] := by kernel_rfl
theorem Qy : Ge uS 37 = some [(0, 1), (1, 1), (2, 1), (3, 1), (4, 1), (5, 1), (6, 1), (7, 1), (8, 1), (9, 1), (10, 1)] := by kernel_rfl
theorem F6 : Ge uS 40 = some [(0, 1), (1, 1), (2, 1)] := by kernel_rfl
theorem R7 : Ge uS 67 = some [(0, 1), (1, 1), (2, 1)] := by kernel_rfl
theorem Wc : Ge uS 73 = some [(0, 1), (1, 1), (2, 1), (3, 3)] := by kernel_rfl
theorem VN : Ge uS 81 = some [(0, 4), (4, 1), (5, 1), (6, 1), (7, 3)] := by kernel_rfl
theorem Tv : SE uS 37 = some [0, 0, 0, 0, 0, 0, 0, 0, 0, 0, 0] := by kernel_rfl
theorem DO : sliceB uS 110 125 = true := by kernel_rfl
theorem H2 : sliceB uS 125 4 = true := by kernel_rfl
theorem Hv : sliceB uS 135 40 = true := by kernel_rfl
theorem Cb : sliceB uS 167 2 = true := by kernel_rfl
theorem AB : sliceB uS 22 3 = true := by kernel_rfl
theorem C0 : sliceB uS 23 112 = true := by kernel_rfl
theorem Gn : sliceB uS 26 67 = true := by kernel_rfl
theorem Eb : sliceB uS 27 37 = true := by kernel_rfl
theorem Dq : sliceB uS 38 113 = true := by kernel_rfl
theorem Tw : sliceB uS 89 9 = true := by kernel_rfl
theorem VK : (Tryz.prog.underlying 113).isSome = true := by kernel_rfl
theorem Tk : (Tryz.prog.underlying 214).isSome = true := by kernel_rfl
theorem QL : (Tryz.prog.underlying 234).isSome = true := by kernel_rfl
theorem PM : (Tryz.prog.underlying 242).isSome = true := by kernel_rfl
theorem WN : (Tryz.prog.underlying 3).isSome = true := by kernel_rfl
theorem WS : (Tryz.prog.underlying 5).isSome = true := by kernel_rfl
theorem NG : Kp uS 9 = true := by kernel_rfl
theorem BY : F5 uS 112 6 = true := by kernel_rfl
theorem DF : F5 uS 113 1 = true := by kernel_rfl
theorem JN : F5 uS 125 1 = true := by kernel_rfl
theorem Ig : F5 uS 2 1 = true := by kernel_rfl
theorem VI : F5 uS 209 8 = true := by kernel_rfl
theorem Vf : F5 uS 22 1 = true := by kernel_rfl
theorem DD : F5 uS 25 4 = true := by kernel_rfl
theorem WH : F5 uS 29 7 = true := by kernel_rfl
theorem Cy : F5 uS 3 1 = true := by kernel_rfl
theorem DB : F5 uS 37 11 = true := by kernel_rfl
theorem WC : F5 uS 38 1 = true := by kernel_rfl
theorem Rt : F5 uS 4 1 = true := by kernel_rfl
theorem AM : F5 uS 40 3 = true := by kernel_rfl
theorem FD : F5 uS 67 3 = true := by kernel_rfl
theorem Gi : F5 uS 73 6 = true := by kernel_rfl
theorem V1 : F5 uS 9 1 = true := by kernel_rfl
theorem JR : Da uS 112 = some (.agg #[.int .i64 0, .int .i64 0, .int .i64 0, .bool false, .slice none 0 0, .slice none 0 0]) := by kernel_rfl
theorem LJ : Da uS 113 = some (.int .u8 0) := by kernel_rfl
theorem Vg : Da uS 166 = some (.agg #[.int .i64 0, .int .i64 0, .bool false, .map none]) := by kernel_rfl
theorem Th : Da uS 2 = some (.int .i64 0) := by kernel_rfl
theorem Td : Da uS 209 = some (.agg #[.string ⟨#[]⟩, .string ⟨#[]⟩, .string ⟨#[]⟩, .string ⟨#[]⟩, .string ⟨#[]⟩, .string ⟨#[]⟩, .string ⟨#[]⟩, .string ⟨#[]⟩]) := by kernel_rfl
theorem VH : Da uS 25 = some (.agg #[.slice none 0 0, .slice none 0 0, .slice none 0 0, .slice none 0 0]) := by kernel_rfl
theorem ML : Da uS 3 = some (.int .i64 0) := by kernel_rfl
theorem IY : Da uS 37 = some (.agg #[.int .i64 0, .int .i64 0, .int .i64 0, .int .i64 0, .int .i64 0, .int .i64 0, .int .i64 0, .int .i64 0, .int .i64 0, .int .i64 0, .int .i64 0]) := by kernel_rfl
theorem CO : Da uS 40 = some (.agg #[.slice none 0 0, .slice none 0 0, .slice none 0 0]) := by kernel_rfl
theorem Od : Da uS 67 = some (.agg #[.int .i64 0, .int .i64 0, .int .i64 0]) := by kernel_rfl
theorem Pt : Da uS 73 = some (.agg #[.int .i64 0, .bool false, .bool false, .slice none 0 0, .slice none 0 0, .slice none 0 0]) := by kernel_rfl
theorem Vh : Da uS 81 = some (.agg #[.slice none 0 0, .slice none 0 0, .slice none 0 0, .slice none 0 0, .slice none 0 0, .int .i64 0, .int .i64 0, .slice none 0 0, .slice none 0 0, .slice none 0 0]) := by kernel_rfl
theorem WO : Da uS 9 = some (.string ⟨#[]⟩) := by kernel_rfl
end Go.Lift
