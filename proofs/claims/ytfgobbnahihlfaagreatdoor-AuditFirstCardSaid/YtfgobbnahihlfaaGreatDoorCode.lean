/- Lemmas for AuditFirstCardSaid, which YtfgobbnahihlfaaGreatDoorFinA3 proves. -/
import Derived.Test.YtfgobbnahihlfaaGreatDoorLift16
import Derived.ProofKit
import Derived.Shelf.SlSortCmp.NoneTotal
import Derived.MakeChecks
import Derived.Shelf.Strconv.Itoa3
import Derived.Shelf.Spec.TrailingZeros
import Derived.Shelf.SlLaysF
import Derived.Shelf.Strconv.Itoa4
import Derived.Laws.Runes
import Derived.Shelf.Strings.Builder1
import Derived.Deep.LoopGhost
import Derived.Deep.DeepFit
import Derived.Deep.Onto
import Derived.WalkKit
import Derived.Test.YtfgobbnahihlfaaGreatDoorProg
import Derived.KernelRfl
open Array renaming getElem?_append → uQ, getElem?_eq_none → yE, getElem?_eq_some_iff → uF, length_toList → xG, replicate → xU
open Bool renaming and_eq_true → zC, and_eq_true_iff → y5, not_eq_true' → xA, not_true → zK, or_eq_true → yQ, true_and → zL
open List renaming all_cons → yK, all_eq_true → zD, any_cons → xJ, drop_eq_nil_of_le → zM, eq_nil_of_length_eq_zero → yP, getElem?_append_left → yG, getElem?_append_right → yD, getElem?_drop → yR, getElem?_eq_getElem → zQ, getElem?_map → zG, getElem?_take_of_lt → zU, length → xF, length_cons → y8, length_map → zY, length_take → xQ, map_cons → zZ, map_nil → uG, map_toArray → xR, mem_cons → zX, mem_iff_getElem? → zO, mem_map → yN, nodup_cons → yU, range → yC, range' → xN, replicate → zJ
open Nat renaming add_assoc → y7, add_mul → yO, ble → yZ, ble_eq_true_of_le → xC, blt → uK, blt_eq → y9, le_of_ble_eq_true → zW, le_refl → yY, lt_or_ge → yB, min → yJ, mul_le_mul_right → zF, succ_mul → yH, zero_add → zI, zero_le → zT
open Option renaming getD_some → yA, map_some → yS
open Go.Proofs.Tryz renaming prog → zA
namespace Go.Lift
open Go.RowKit
variable {P : Program} {X : Gy} {ops : Array Oper}
def HC (P : Program) : Nat → List Field → Option (List Nat)
 | _, [] => some []
 | k, f :: fs => if f.name == "_" || f.offset != k then none else match P.underlying f.type with
  | some (.int _) => (HC P (k + 1) fs).map (0 :: ·)
  | some .bool => (HC P (k + 1) fs).map (1 :: ·)
  | some .string => (HC P (k + 1) fs).map (2 :: ·)
  | _ => none
def Tn (P : Program) (t : TypeId) : Option (List Nat) :=
 match P.underlying t with
 | some (.struct fs) => if P.stoodInHeld t || P.eqGuardType P.depth t then none else HC P 0 fs.toList
 | _ => none
def Ek : List Nat → List Value → List Value → Option Bool
 | [], [], [] => some true
 | 0 :: ts, .int k a :: ar, .int k' b :: bs => if k = k' then (Ek ts ar bs).map (fun r => (a == b) && r) else none
 | 1 :: ts, .bool a :: ar, .bool b :: bs => (Ek ts ar bs).map (fun r => (a == b) && r)
 | 2 :: ts, .string a :: ar, .string b :: bs => (Ek ts ar bs).map (fun r => (a.toList == b.toList) && r)
 | _, _, _ => none
theorem RC {ts : List Nat} {ar bs : List Value} {r : Bool} (h : Ek (0 :: ts) ar bs = some r) : ∃ k a ar' b bs' r', ar = .int k a :: ar' ∧ bs = .int k b :: bs' ∧ Ek ts ar' bs' = some r' ∧ r = ((a == b) && r') := by
 unfold Ek at h
 split at h <;> try (exfalso; simp_all; done)
 rename_i ts' k a ar' k' b bs' e
 cases e
 split at h
 ·rename_i e; subst e
  cases hel : Ek ts ar' bs' with
  | none => rw [hel] at h; cases h
  | some r' =>
   rw [hel] at h
   exact ⟨k, a, ar', b, bs', r', rfl, rfl, hel, by simpa using h.symm⟩
 ·cases h
theorem RJ {ts : List Nat} {ar bs : List Value} {r : Bool} (h : Ek (1 :: ts) ar bs = some r) : ∃ a ar' b bs' r', ar = .bool a :: ar' ∧ bs = .bool b :: bs' ∧ Ek ts ar' bs' = some r' ∧ r = ((a == b) && r') := by
 unfold Ek at h
 split at h <;> try (exfalso; simp_all; done)
 rename_i ts' a ar' b bs' e
 cases e
 cases hel : Ek ts ar' bs' with
 | none => rw [hel] at h; cases h
 | some r' =>
  rw [hel] at h
  exact ⟨a, ar', b, bs', r', rfl, rfl, hel, by simpa using h.symm⟩
theorem RH {ts : List Nat} {ar bs : List Value} {r : Bool} (h : Ek (2 :: ts) ar bs = some r) : ∃ a ar' b bs' r', ar = .string a :: ar' ∧ bs = .string b :: bs' ∧ Ek ts ar' bs' = some r' ∧ r = ((a.toList == b.toList) && r') := by
 unfold Ek at h
 split at h <;> try (exfalso; simp_all; done)
 rename_i ts' a ar' b bs' e
 cases e
 cases hel : Ek ts ar' bs' with
 | none => rw [hel] at h; cases h
 | some r' =>
  rw [hel] at h
  exact ⟨a, ar', b, bs', r', rfl, rfl, hel, by simpa using h.symm⟩
theorem MR {t : TypeId} (h : Eb P t false = true) {cs : Array Value} {off : Nat} {v : Value} (hv : cs[off]? = some v) (w : World) : (part t cs off).run P w = .ok v w := by
 unfold part
 refine Ah (G1 h w) ?_
 simp only [Bool.false_eq_true, if_false, hv]
 rfl
theorem L2 (d : Nat) (xs ys : Array Value) (w : World) : ∀ (fs : List Field) (ts : List Nat) (k : Nat) (ar bs : List Value) (r : Bool), HC P k fs = some ts → (∀ (j : Nat) (v : Value), ar[j]? = some v → xs[k + j]? = some v) → (∀ (j : Nat) (v : Value), bs[j]? = some v → ys[k + j]? = some v) → Ek ts ar bs = some r →
  (Op.eqFields (d + 1) xs ys fs).run P w = .ok r w
 | [], ts, k, ar, bs, r, ht, hx, hy, he => by
  cases ht
  cases ar <;> cases bs <;> simp [Ek] at he
  subst he; rfl
 | f :: fs, ts, k, ar, bs, r, ht, hx, hy, he => by
  simp only [HC] at ht
  split at ht
  ·cases ht
  ·rename_i hn
   simp only [yQ, not_or, beq_iff_eq, bne_iff_ne, ne_eq, Decidable.not_not] at hn
   obtain ⟨hn1, hn2⟩ := hn
   subst hn2
   have step : ∀ (ts' : List Nat) (a b : Value) (ar' bs' : List Value) (q r' : Bool), ar = a :: ar' → bs = b :: bs' → HC P (f.offset + 1) fs = some ts' → Ek ts' ar' bs' = some r' → Eb P f.type false = true → (Op.equalIn (d + 1) f.type a b).run P w = .ok q w →
     (Op.eqFields (d + 1) xs ys (f :: fs)).run P w = .ok (q && r') w := by
    intro ts' a b ar' bs' q r' ha hb htl hel hag heq
    subst ha; subst hb
    have h1 : xs[f.offset]? = some a := hx 0 a rfl
    have h2 : ys[f.offset]? = some b := hy 0 b rfl
    simp only [Op.eqFields, hn1, ne_eq, not_false_eq_true, if_true]
    refine Ah (MR hag h1 w) (Ah (MR hag h2 w) (Ah heq ?_))
    cases q
    ·simp
    ·simp only [zK, Bool.false_eq_true, if_false, zL]
     exact L2 d xs ys w fs ts' (f.offset + 1) ar' bs' r' htl (fun j v hj => by rw [show f.offset + 1 + j = f.offset + (j + 1) from by omega]; exact hx (j + 1) v hj) (fun j v hj => by rw [show f.offset + 1 + j = f.offset + (j + 1) from by omega]; exact hy (j + 1) v hj) hel
   split at ht
   ·rename_i kk hu
    cases htl : HC P (f.offset + 1) fs with
    | none => rw [htl] at ht; cases ht
    | some ts' =>
     rw [htl] at ht; cases ht
     obtain ⟨k1, a1, ar', b1, bs', r', e1, e2, hel, rfl⟩ := RC he
     subst e1; subst e2
     exact step ts' _ _ ar' bs' _ r' rfl rfl htl hel (by unfold Eb; rw [hu]; rfl) (run_equalIn_int w d f.type k1 kk a1 b1 hu)
   ·rename_i hu
    cases htl : HC P (f.offset + 1) fs with
    | none => rw [htl] at ht; cases ht
    | some ts' =>
     rw [htl] at ht; cases ht
     obtain ⟨a1, ar', b1, bs', r', e1, e2, hel, rfl⟩ := RJ he
     subst e1; subst e2
     exact step ts' _ _ ar' bs' _ r' rfl rfl htl hel (by unfold Eb; rw [hu]; rfl) (run_equalIn_bool' w d f.type a1 b1 hu)
   ·rename_i hu
    cases htl : HC P (f.offset + 1) fs with
    | none => rw [htl] at ht; cases ht
    | some ts' =>
     rw [htl] at ht; cases ht
     obtain ⟨a1, ar', b1, bs', r', e1, e2, hel, rfl⟩ := RH he
     subst e1; subst e2
     exact step ts' _ _ ar' bs' _ r' rfl rfl htl hel (by unfold Eb; rw [hu]; rfl) (run_equalIn_string w d f.type a1 b1 hu)
   ·cases ht
theorem NT {t : TypeId} {ts : List Nat} (h : Tn P t = some ts) {ar bs : List Value} {r : Bool} (hr : Ek ts ar bs = some r) (w : World) :
  (Op.equalIn 10000 t (.agg ar.toArray) (.agg bs.toArray)).run P w = .ok r w ∧ P.eqGuardType P.depth t = false := by
 unfold Tn at h
 split at h
 ·rename_i fs hu
  split at h
  ·cases h
  ·rename_i hn
   simp only [yQ, not_or, Bool.not_eq_true] at hn
   have hf : P.fieldsOf t = fs := by unfold Program.fieldsOf; rw [hu]
   refine ⟨?_, hn.2⟩
   rw [run_equalIn_struct w 9999 t _ _ (by rw [hf]; exact hu) hn.1, hf]
   exact L2 9998 _ _ w fs.toList ts 0 ar bs r h (fun j v hj => by simpa using hj) (fun j v hj => by simpa using hj) hr
 ·cases h
abbrev aD (ar : List Value) : D := .e (.agg (ar.map fun v => .pure (.val v)))
theorem RL {w : World} {G : Gh} {v : Value} {ar : List Value} (h : FT P w G v (aD ar)) : v = .agg ar.toArray := by
 obtain ⟨vs, rfl, hs, h⟩ := h
 congr 1
 have hs' : vs.size = ar.length := by simpa using hs
 apply Array.ext
 ·simpa using hs'
 ·intro j h1 h2
  have hj : j < ar.length := by omega
  have : Ef P w G (Au vs j) (.pure (.val ar[j])) := h j _ (by simp [hj])
  have h3 := CW (this : Cw w G.S _ (.val _))
  simpa [Au, h1] using h3
section run
variable {dr : Bool} {Q : St → Prop} {r i : Nat} {st : St} {log : List (Nat × B7)} {o : Oper} {gs : List (Operand × D)}
theorem Un {xt yt : TypeId} {x y : Operand} {s : Nat} {ts : List Nat} {b : Bool} (ar bs : List Value) (hat : At st.env ops i X.n (.binOp .eql xt x y yt) s gs)
  (hx : opd st.env x = some (aD ar)) (hy : opd st.env y = some (aD bs)) (ht : Tn P xt = some ts) (he : Ek ts ar bs = some b)
  (next : A7 P X ops dr Q r (i + 1) (B7.upd ⟨gs ++ [(x, aD ar), (y, aD bs)], [], some s, some (bD b), [], []⟩ st) ((i, ⟨gs ++ [(x, aD ar), (y, aD bs)], [], some s, some (bD b), [], []⟩) :: log)) : A7 P X ops dr Q (r + 1) i st log := by
 obtain ⟨o, ho, hop, hd, hn, hg, hgp⟩ := hat.out
 refine A7.step next ⟨Al.2 ⟨hgp, hx, hy, trivial⟩, trivial, trivial⟩ (LR.value ho hg rfl hd.symm (C1 hd hn) ?_)
 intro G st a w hs hpre
 obtain ⟨hx, hy, _⟩ := (Al.1 hpre.r).2
 have hX := RL (hs.opd hx)
 have hY := RL (hs.opd hy)
 obtain ⟨h1, h2⟩ := NT ht he w
 refine ⟨.bool b, w, G, ?_, hs, ?_⟩
 ·simp only [execOp, hop, hX, hY]
  refine Ah (a := .bool b) (w1 := w) (Ah (run_eqGuard_agg w .eql xt x y _ _ h2) ?_) rfl
  rw [run_eql_struct, h1]; rfl
 ·rintro d ⟨⟩
  exact ⟨.val _ rfl, fun b hb => by cases hb⟩
theorem Oe {xt yt : TypeId} {x : Operand} {s e : Nat} {rows : List (List T)} (hat : At st.env ops i X.n (.binOp .eql xt x (.const (.slice none 0 0)) yt) s gs)
  (hx : opd st.env x = some (one (.sl rows))) (ht : sliceB P xt e = true)
  (next : A7 P X ops dr Q r (i + 1) (B7.upd ⟨gs ++ [(x, one (.sl rows))], [], some s, some (.e (.one (.nilq (rows = [])))), [], []⟩ st) ((i, ⟨gs ++ [(x, one (.sl rows))], [], some s, some (.e (.one (.nilq (rows = [])))), [], []⟩) :: log)) : A7 P X ops dr Q (r + 1) i st log := by
 obtain ⟨o, ho, hop, hd, hn, hg, hgp⟩ := hat.out
 refine A7.step next ⟨Al.2 ⟨hgp, hx, trivial⟩, trivial, trivial⟩ (LR.value ho hg rfl hd.symm (C1 hd hn) ?_)
 intro G st a w hs hpre
 obtain ⟨hx, _⟩ := (Al.1 hpre.r).2
 have hX : Cw w G.S (a.eval x) (.sl rows) := hs.opd hx
 obtain ⟨av, l, c, hv, hq⟩ : ∃ av l c, a.eval x = .slice av l c ∧ (av.isNone = true → rows = []) := by
  generalize a.eval x = v at hX
  cases hX with
  | nil av cap => exact ⟨av, 0, cap, rfl, fun _ => rfl⟩
  | sl β off cap e arr el fz rows h1 h2 h3 h4 h5 h6 => exact ⟨_, _, _, rfl, fun h => by cases h⟩
 have hu : P.underlying xt = some (.slice e) := by
  unfold sliceB at ht
  split at ht
  ·rename_i e' he; rw [he]; simp at ht; rw [ht]
  ·cases ht
 refine ⟨.bool av.isNone, w, G, ?_, hs, ?_⟩
 ·simp only [execOp, hop, hv]
  refine Ah (a := .bool av.isNone) (w1 := w) (Ah (a := ()) (w1 := w) (by simp [eqGuard]) ?_) rfl
  have h1 : (Op.equalIn (9999 + 1) xt (.slice av l c) (.slice none 0 0)).run P w = .ok av.isNone w := by
   generalize 9999 = dd
   cases av <;> (unfold Op.equalIn; exact Ah (AC hu w) rfl)
  simp only [binOp, Act.eval]
  refine Ah (a := av.isNone) (w1 := w) ?_ rfl
  exact h1
 ·rintro d ⟨⟩
  exact ⟨⟨_, rfl, hq⟩, fun b hb => by cases hb⟩
end run
theorem Nv {c : Operand} {x y : Code} {Q : Exit → St → Prop} {st : St} {p : Prop} (hc : opd st.env c = some (.e (.one (.nilq p)))) (ht : p → W P X x Q st) (hf : W P X y Q st) : W P X (.cond c x y) Q st := by
 intro a w hs
 obtain ⟨b, hcv, hp⟩ : ∃ b, a.eval c = .bool b ∧ (b = true → p) := by
  obtain ⟨G, hs⟩ := hs
  exact hs.opd hc
 cases b with
 | true => exact wp_cond_true hcv (ht (hp rfl) a w hs)
 | false => exact wp_cond_false hcv (hf a w hs)
end Go.Lift
namespace Go.Lift
open List renaming mem_of_getElem? → lM
open Go.RowKit
variable {P : Program} {X : Gy} {ops : Array Oper}
def Pe : Bool × List T → D
 | (true, ts) => .e (.agg (ts.map .pure))
 | (false, ts) => .e (.one (.pure (ts.headD .nil0)))
def T7 : Bool × List T → Bool
 | (true, _) => true
 | (false, ts) => match ts with | [_] => true | _ => false
theorem U3 {w : World} {S : Nat → Prop} {G : Gh} {v : Value} {x : Bool × List T} (h : FT P w G v (Pe x)) (hS : ∀ β, G.S β → S β) (hx : T7 x = true) : Vg w S v x := by
 obtain ⟨b, ts⟩ := x
 cases b with
 | false =>
  match ts, hx with
  | [t], _ => exact ⟨t, rfl, Cw.mono (show Cw w G.S v t from h) (fun _ _ => rfl) hS⟩
 | true =>
  obtain ⟨vs, e, hs, h⟩ := h
  refine ⟨vs, e, by simpa using hs, fun j t hj => ?_⟩
  have : Ef P w G (Au vs j) (.pure t) := h j (.pure t) (by simp [hj])
  exact Cw.mono this (fun _ _ => rfl) hS
theorem R5 {w : World} {S : Nat → Prop} {v : Value} {x : Bool × List T} (h : Vg w S v x) : FT P w (G0 S) v (Pe x) := by
 obtain ⟨b, ts⟩ := x
 cases b with
 | false =>
  obtain ⟨t, rfl, h⟩ := h
  exact h
 | true =>
  obtain ⟨vs, e, hs, h⟩ := h
  refine ⟨vs, e, by simpa using hs, fun j c hj => ?_⟩
  rw [zG] at hj
  cases hx : ts[j]? with
  | none => rw [hx] at hj; cases hj
  | some t => rw [hx] at hj; cases hj; exact h j t hx
noncomputable def Iv {α ρ : Type} (ea : α → List (Bool × List T)) (er : ρ → T) (q : α → Option ρ) : List (Bool × List T) → Option T := fun ar =>
 open Classical in if h : ∃ x r, ea x = ar ∧ q x = some r then some (er (Classical.choose (Classical.choose_spec h))) else none
theorem IY {α ρ : Type} {ea : α → List (Bool × List T)} {er : ρ → T} {q : α → Option ρ} {ar : List (Bool × List T)} {t : T} (h : Iv ea er q ar = some t) : ∃ x r, ar = ea x ∧ q x = some r ∧ t = er r := by
 unfold Iv at h
 split at h
 ·rename_i hx
  cases h
  have := Classical.choose_spec (Classical.choose_spec hx)
  exact ⟨_, _, this.1.symm, this.2, rfl⟩
 ·cases h
theorem Lg {α ρ : Type} {ea : α → List (Bool × List T)} {er : ρ → T} {q : α → Option ρ} (inj : ∀ x y, ea x = ea y → x = y) {x : α} {r : ρ} (h : q x = some r) : Iv ea er q (ea x) = some (er r) := by
 have hx : ∃ y s, ea y = ea x ∧ q y = some s := ⟨x, r, rfl, h⟩
 unfold Iv
 rw [dif_pos hx]
 have h1 := Classical.choose_spec (Classical.choose_spec hx)
 have h2 := inj _ _ h1.1
 have h3 : q (Classical.choose hx) = some r := by rw [h2]; exact h
 exact congrArg (fun z => some (er z)) (Option.some.inj (h3.symm.trans h1.2)).symm
structure Vf {α β : Type} (f : α → β) : Prop where
 inj : ∀ x y, f x = f y → x = y
def Nc {α : Type} (b : Bool) (e : α → List T) (x : α) : List (Bool × List T) := [(b, e x)]
theorem Ln {α : Type} (b : Bool) (e : α → List T) (h : Vf e) : ∀ x y, Nc b e x = Nc b e y → x = y := by
 intro x y hxy
 simp only [Nc, List.cons.injEq, Prod.mk.injEq, true_and, and_true] at hxy
 exact h.inj _ _ hxy
theorem Qx {α β : Type} {f : α → β} (h : ∀ x y, f x = f y → x = y) : ∀ (xs ys : List α), xs.map f = ys.map f → xs = ys
 | [], [], _ => rfl
 | [], _ :: _, e => by cases e
 | _ :: _, [], e => by cases e
 | x :: xs, y :: ys, e => by
  simp only [zZ, List.cons.injEq] at e
  rw [h _ _ e.1, Qx h _ _ e.2]
theorem Of {f : FuncId} {g : List (Bool × List T) → Option T} (hf : Ay P f = true) (hclo : ∀ ar t, g ar = some t → Ar P f (ar.map Pe) [] (one t)) {w : World} {S : Nat → Prop} {v : Value} (h : FT P w (G0 S) v (.e (.one (.fnc f)))) : FT P w (G0 S) v (.e (.one (.clo g))) := by
 refine ⟨f, #[], h, ?_, ?_⟩
 ·unfold Ay at hf
  split at hf
  ·rename_i fn h0
   simp only [zC, xA] at hf
   exact ⟨fn, h0, hf.2, hf.1⟩
  ·cases hf
 ·intro w' S' _ _ hlt hgk vs ar r0 hvs has hgr
  refine (hclo ar r0 hgr w' S' (vs ++ #[]) hlt hgk (by simp [hvs]) ?_).mono ?_
  ·intro j d hj
   rw [zG] at hj
   cases hx0 : ar[j]? with
   | none => rw [hx0] at hj; cases hj
   | some y =>
    rw [hx0] at hj; cases hj
    rw [Array.append_empty]
    exact R5 (has j y hx0)
  ·rintro e w'' ⟨v, G', rfl, hbel, h1, h2, h3, _⟩
   exact ⟨v, G'.S, rfl, hbel, h1, h2, h3⟩
def VR (P : Program) : List D → List D → Prop
 | [], [] => True
 | a :: ar, b :: bs => (∀ (w : World) (S : Nat → Prop) (v : Value), FT P w (G0 S) v a → FT P w (G0 S) v b) ∧ VR P ar bs
 | _, _ => False
theorem VR.get : ∀ {ar bs : List D}, VR P ar bs → ar.length = bs.length ∧ ∀ (j : Nat) (b : D), bs[j]? = some b → ∃ a, ar[j]? = some a ∧ ∀ (w : World) (S : Nat → Prop) (v : Value), FT P w (G0 S) v a → FT P w (G0 S) v b
 | [], [], _ => ⟨rfl, fun j b h => by simp at h⟩
 | a :: ar, b :: bs, h => by
  obtain ⟨h1, h2⟩ := VR.get h.2
  refine ⟨by simp [h1], fun j c hj => ?_⟩
  cases j with
  | zero => simp at hj; subst hj; exact ⟨a, rfl, h.1⟩
  | succ j => obtain ⟨a', g1, g2⟩ := h2 j c (by simpa using hj); exact ⟨a', by simpa using g1, g2⟩
theorem Ar.weak {f : FuncId} {ds ds' : List D} {rv : List (Nat × List (List T))} {res : D} (h : Ar P f ds rv res) (hp : VR P ds' ds) : Ar P f ds' rv res := by
 intro w S vs hS hgk hlen hargs
 obtain ⟨h1, h2⟩ := hp.get
 refine h w S vs hS hgk (by rw [hlen, h1]) fun j d hj => ?_
 obtain ⟨a, g1, g2⟩ := h2 j d hj
 exact g2 w S _ (hargs j a g1)
section run
variable {dr : Bool} {Q : St → Prop} {r i : Nat} {st : St} {log : List (Nat × B7)} {o : Oper} {gs : List (Operand × D)}
theorem P1 {f : FuncId} (h : Ay P f = true) : ∃ fn, P.funcs[f]? = some fn ∧ fn.body.isSome = true ∧ (fn.name == "runtime.NumGoroutine") = false := by
 unfold Ay at h
 split at h
 ·rename_i fn hf
  simp only [zC, xA] at h
  exact ⟨fn, hf, h.2, h.1⟩
 ·cases h
theorem Ps {f : FuncId} {s : Nat} {xs : List Operand} {capD : List D} (g : List (Bool × List T) → Option T) (hat : At st.env ops i X.n (.makeFunc (.func f) #[] xs.toArray) s gs)
  (hf : Ay P f = true) (hl : xs.length = capD.length) (hx : D1 st.env (Gk xs capD)) (hpub : capD.all Ot = true)
  (hclo : ∀ ar t, g ar = some t → Ar P f (ar.map Pe ++ capD) [] (one t))
  (next : A7 P X ops dr Q r (i + 1) (B7.upd ⟨gs ++ Gk xs capD, [], some s, some (.e (.one (.clo g))), [], []⟩ st) ((i, ⟨gs ++ Gk xs capD, [], some s, some (.e (.one (.clo g))), [], []⟩) :: log)) : A7 P X ops dr Q (r + 1) i st log := by
 obtain ⟨o, ho, hop, hd, hn, hg, hgp⟩ := hat.out
 refine A7.step next ⟨Al.2 ⟨hgp, hx⟩, trivial, trivial⟩ (LR.value ho hg rfl hd.symm (C1 hd hn) ?_)
 intro G st a w hs hpre
 have hx := (Al.1 hpre.r).2
 refine ⟨.func (.func f) #[] (xs.toArray.map a.eval), w, G, ?_, hs, ?_⟩
 ·simp only [execOp, hop]
  exact Ah (a := .func (.func f) #[] (xs.toArray.map a.eval)) (w1 := w) (by simp [Instr.makeFunc]) rfl
 ·rintro d ⟨⟩
  refine ⟨⟨f, _, rfl, P1 hf, ?_⟩, fun b hb => by cases hb⟩
  intro w' S' hS' hw' hlt hgk vs ar r0 hvs has hgr
  refine (hclo ar r0 hgr w' S' (vs ++ xs.toArray.map a.eval) hlt hgk (by simp [hvs, hl]) ?_).mono ?_
  ·intro j d hj
   by_cases hja : j < ar.length
   ·rw [yG (by simpa using hja), zG] at hj
    have hx0 : ar[j]? = some ar[j] := by simp [hja]
    rw [hx0] at hj; cases hj
    rw [CI (by omega)]
    exact R5 (has j _ hx0)
   ·rw [yD (by simp; omega)] at hj
    simp only [zY] at hj
    have hlt' := AB hj
    have hxj : xs[j - ar.length]? = some (xs[j - ar.length]'(by omega)) := by simp [show j - ar.length < xs.length from by omega]
    have hop' := HW hl hx _ _ d hxj hj
    have hcell : Au (vs ++ xs.toArray.map a.eval) j = a.eval (xs[j - ar.length]'(by omega)) := by
     unfold Au
     rw [Array.getElem?_append_right (by omega), hvs]
     simp [show j - ar.length < xs.length from by omega]
    rw [hcell]
    have hcl : d.names = [] := by
     have := zD.1 hpub d (lM hj)
     simpa [Ot] using this
    exact ((hs.opd hop').mono (p := fun _ => False) (G' := G0 S') ⟨hS', fun _ h => h.elim, fun _ h => h.elim, fun _ h => h.elim⟩ hw' (fun b hb => by rw [hcl] at hb; cases hb))
  ·rintro e w'' ⟨v, G', rfl, hbel, h1, h2, h3, _⟩
   exact ⟨v, G'.S, rfl, hbel, h1, h2, h3⟩
theorem Lm {x : Operand} {g : List (Bool × List T) → Option T} {s : Nat} {xs : List Operand} {ds0 : List D} {ar : List (Bool × List T)} {r0 : T} {ts : Array TypeId} (hat : At st.env ops i X.n (.call ⟨.value x, xs.toArray, ts⟩) s gs)
  (hgx : opd st.env x = some (.e (.one (.clo g)))) (hl : xs.length = ds0.length) (hx : D1 st.env (Gk xs ds0)) (hds : ds0.map D.nrm = ar.map Pe) (_hpub : (ar.map Pe).all Ot = true) (hok : ar.all T7 = true) (hr : g ar = some r0)
  (next : A7 P X ops dr Q r (i + 1) (B7.upd ⟨gs ++ ((x, .e (.one (.clo g))) :: Gk xs ds0), [], some s, some (one r0), [], []⟩ st) ((i, ⟨gs ++ ((x, .e (.one (.clo g))) :: Gk xs ds0), [], some s, some (one r0), [], []⟩) :: log)) : A7 P X ops dr Q (r + 1) i st log := by
 obtain ⟨o, ho, hop, hd, hn, hg, hgp⟩ := hat.out
 refine A7.step next ⟨Al.2 ⟨hgp, hgx, hx⟩, trivial, trivial⟩ ?_
 intro st a w K Q' hs hpre hK
 obtain ⟨G, hs⟩ := hs
 obtain ⟨hgx, hx⟩ := (Al.1 hpre.r).2
 have hw := hs.wanted hg (Al.1 hpre.r).1
 unfold wpOp
 rw [ho]
 simp only [hw, if_true]
 refine .inl ?_
 unfold Oper.wp
 obtain ⟨f, caps, hv, ⟨fn, hf1, hf2, hf3⟩, hcall⟩ : Mb P w G.S (a.eval x) g := hs.opd hgx
 have hgood : Ay P f = true := by unfold Ay; rw [hf1]; simp [hf2]; simpa using hf3
 have hrun : (execOp a.eval o).run P w = .ok (.enter f (xs.toArray.map a.eval ++ caps)) w := by
  simp only [execOp, hop]
  simp only [resolve, hv, Deferred.ofValue]
  refine Ah (a := { target := .fn (.func f) caps, args := #[] ++ xs.toArray.map a.eval }) (w1 := w) rfl ?_
  simp only [invoke]
  rw [Id hgood]; simp
 rw [hrun]
 show Calls P f (xs.toArray.map a.eval ++ caps) w _
 have hlen : xs.length = ar.length := by
  have := congrArg xF hds
  simp at this; omega
 refine (hcall w G.S (fun _ h => h) (fun _ _ => rfl) hs.S_lt hs.gok (xs.toArray.map a.eval) ar r0 (by simp [hlen]) ?_ hr).mono ?_
 ·intro j y hj
  have hlt := AB hj
  have hd0 : ds0[j]? = some (ds0[j]'(by omega)) := by simp [show j < ds0.length from by omega]
  have hnrm : (ds0[j]'(by omega)).nrm = Pe y := by
   have h1 : (ds0.map D.nrm)[j]? = (ar.map Pe)[j]? := by rw [hds]
   rw [zG, zG, hd0, hj] at h1
   simpa using h1
  have hxj : xs[j]? = some (xs[j]'(by omega)) := by simp [show j < xs.length from by omega]
  have hop' := HW hl hx j _ _ hxj hd0
  have hcell : Au (xs.toArray.map a.eval) j = a.eval (xs[j]'(by omega)) := by simp [Au, show j < xs.length from by omega]
  rw [hcell]
  have hrd := (hs.opd hop').nrm
  rw [hnrm] at hrd
  exact U3 hrd (fun _ h => h) (zD.1 hok y (lM hj))
 ·rintro e w' ⟨v, S'', rfl, hbel, hS1, hS2, hres⟩
  show K (a.put o.dst v) w'
  rw [hd]
  let G2 : Gh := { G with S := S'' }
  have hsz := hbel.size
  have hle := hs.below.size
  have key : CE P X G2 ⟨st.env, BF st.bx []⟩ a w' := by
   refine hs.frame (fun c hc => hc) ⟨hS1, fun _ _ => rfl, fun _ _ => rfl, fun _ _ => rfl⟩ (fun β hβ => hbel.block β (hs.S_lt β hβ)) ?_ ?_ ?_ ?_ ?_ (hs.below.trans (.of (hbel.mono hle))) (fun _ _ => ⟨rfl, rfl, rfl⟩)
   ·intro c k hc
    exact .inl ⟨hc, fun β hr hβ => hbel.block β (hs.at_ok c k β hc hr hβ).2.1⟩
   ·intro c k β hc hr hβ
    have := hs.at_ok c k β hc hr hβ
    refine ⟨this.1, by omega, fun h => ?_⟩
    rcases hS2 β h with h | h
    ·exact this.2.2 h
    ·omega
   ·intro c c' k k' β hc hc' hr hr' hβ hβ'
    exact hs.at_inj c c' k k' β hc hc' hr hr' hβ hβ'
   ·intro β h
    rcases hS2 β h with h | h
    ·have := hs.S_lt β h; omega
    ·exact h.2
   ·intro β h
    rcases hS2 β h with h | h
    ·exact hs.S_src β h
    ·exact .inr (by omega)
  refine hK _ _ ⟨G2, key.put (some s) (some (one r0)) v (by intro t e; cases e; exact hn) ?_⟩
  rintro d ⟨⟩
  exact ⟨hres, fun b hb => by cases hb⟩
end run
end Go.Lift
namespace Go.Lift
open Go.RowKit Go.ChangeShapes Go.WideShapes
section
variable {P : Program}
def Kc (P : Program) : Nat → List Field → Nat → Bool
 | o, [], n => o == n
 | o, f :: fs, n => f.offset == o && Kc P (o + P.cellsOf f.type) fs n
def HH (P : Program) : Nat → TypeId → Bool
 | 0, _ => false
 | d + 1, t => match P.underlying t with
  | some (.int _) => true
  | some .bool => true
  | some .string => true
  | some (.slice e) => decide (0 < P.cellsOf e) && HH P d e
  | some (.struct fs) => Kc P 0 fs.toList (P.cellsOf t) && fs.toList.all fun f => HH P d f.type
  | _ => false
def To (F : TypeId → List T → Prop) : List TypeId → List T → Prop
 | [], ts => ts = []
 | t :: tys, ts => ∃ a b, ts = a ++ b ∧ F t a ∧ To F tys b
def IU (P : Program) : Nat → TypeId → List T → Prop
 | 0, _, _ => False
 | d + 1, t, ts => match P.underlying t with
  | some (.int k) => ∃ n, ts = [.val (.int k n)] ∧ (Lit.int k n).wf = true
  | some .bool => ∃ b, ts = [.val (.bool b)]
  | some .string => ∃ s, ts = [.val (.string s)]
  | some (.slice e) => ∃ rows, ts = [.sl rows] ∧ ∀ row, row ∈ rows → IU P d e row
  | some (.struct fs) => To (IU P d) (fs.toList.map (·.type)) ts
  | _ => False
def GO (w : World) (S : Nat → Prop) : List Value → List T → Prop
 | [], [] => True
 | v :: vs, t :: ts => Cw w S v t ∧ GO w S vs ts
 | _, _ => False
theorem GO.append {w : World} {S : Nat → Prop} : ∀ {a b : List Value} {x y : List T}, GO w S a x → GO w S b y → GO w S (a ++ b) (x ++ y)
 | [], _, [], _, _, h => h
 | _ :: _, _, _ :: _, _, h1, h2 => ⟨h1.1, GO.append h1.2 h2⟩
theorem GO.len {w : World} {S : Nat → Prop} : ∀ {a : List Value} {x : List T}, GO w S a x → a.length = x.length
 | [], [], _ => rfl
 | _ :: _, _ :: _, h => by simp [h.2.len]
theorem GO.get {w : World} {S : Nat → Prop} : ∀ {a : List Value} {x : List T}, GO w S a x → ∀ (j : Nat) (t : T), x[j]? = some t → ∃ v, a[j]? = some v ∧ Cw w S v t
 | [], [], _, j, t, hj => by simp at hj
 | v :: _, _ :: _, h, 0, t, hj => by simp at hj; subst hj; exact ⟨v, rfl, h.1⟩
 | _ :: _, _ :: _, h, j + 1, t, hj => by
  obtain ⟨v, h1, h2⟩ := h.2.get j t (by simpa using hj)
  exact ⟨v, by simpa using h1, h2⟩
theorem KN {α : Type} {p : Nat → α → Prop} : ∀ (n : Nat), (∀ i, i < n → ∃ x, p i x) → ∃ l : List α, l.length = n ∧ ∀ i x, l[i]? = some x → p i x
 | 0, _ => ⟨[], rfl, fun i x h => by simp at h⟩
 | n + 1, h => by
  obtain ⟨l, h1, h2⟩ := KN n (fun i hi => h i (by omega))
  obtain ⟨x, hx⟩ := h n (by omega)
  refine ⟨l ++ [x], by simp [h1], fun i y hi => ?_⟩
  by_cases hlt : i < l.length
  ·rw [yG hlt] at hi; exact h2 i y hi
  ·rw [yD (by omega)] at hi
   have : i - l.length = 0 := by
    have := AB hi
    simp at this; omega
   rw [this] at hi
   simp at hi; subst hi
   have : i = n := by omega
   subst this; exact hx
theorem Iz {α : Type} {f : Nat → Option α} : ∀ {n : Nat} {l : List α}, (yC n).mapM f = some l → l.length = n ∧ ∀ i, i < n → f i = l[i]? := by
 intro n l h
 have h1 := mapM_some_length h
 refine ⟨by simpa using h1, fun i hi => ?_⟩
 exact mapM_some_get h i i (by simp [hi])
theorem Ol {w : World} {b o : Nat} {v : Value} (h : w.cell? ⟨b, o, none⟩ = some v) : ∃ arr el fz, w.heap[b]? = some (.cells arr el fz) ∧ arr[o]? = some v := by
 unfold World.cell? at h
 split at h
 ·rename_i c el fz hc
  exact ⟨c, el, fz, hc, by simpa using h⟩
 ·cases h
theorem SU {w : World} {b : Nat} {o : Obj} (h : w.heap[b]? = some o) : b < w.heap.size := by
 rcases yB b w.heap.size with h1 | h1
 ·exact h1
 ·rw [yE h1] at h; cases h
abbrev PF (w : World) : Nat → Prop := fun β => β < w.heap.size
theorem Ni {H : Type} {enc : TypeId × Value → H} {w : World} {sp : Nat → Bool} {held : Bool} {n d : Nat} {cs : List Value}
  (ih : ∀ (t : TypeId) (cs : List Value) (x : DataW H × List MemPlace), HH P d t = true → DataW.trod enc P w 0 sp held n t cs = some x → ∃ ts, GO w (PF w) cs ts ∧ IU P d t ts) :
  ∀ (fs : List Field) (o : Nat), Kc P o fs cs.length = true → (fs.all fun f => HH P d f.type) = true →
   (∀ f, f ∈ fs → ∃ x, DataW.trod enc P w 0 sp held n f.type ((cs.drop f.offset).take (P.cellsOf f.type)) = some x) →
   ∃ ts, GO w (PF w) (cs.drop o) ts ∧ To (IU P d) (fs.map (·.type)) ts
 | [], o, hc, _, _ => by
  simp only [Kc, beq_iff_eq] at hc
  refine ⟨[], ?_, rfl⟩
  rw [zM (by omega)]; trivial
 | f :: fs, o, hc, hp, hx => by
  simp only [Kc, zC, beq_iff_eq] at hc
  simp only [yK, zC] at hp
  obtain ⟨x, hx0⟩ := hx f (by simp)
  rw [hc.1] at hx0
  obtain ⟨ts, h1, h2⟩ := ih _ _ _ hp.1 hx0
  obtain ⟨us, h3, h4⟩ := Ni ih fs _ hc.2 hp.2 (fun g hg => hx g (by simp [hg]))
  refine ⟨ts ++ us, ?_, ⟨ts, us, rfl, h2, h4⟩⟩
  have : cs.drop o = (cs.drop o).take (P.cellsOf f.type) ++ cs.drop (o + P.cellsOf f.type) := by
   rw [← List.drop_drop, List.take_append_drop]
  rw [this]
  exact h1.append h3
theorem N8 {H : Type} {enc : TypeId × Value → H} {w : World} {sp : Nat → Bool} {held : Bool} : ∀ (d fuel : Nat) (t : TypeId) (cs : List Value) (x : DataW H × List MemPlace), HH P d t = true → DataW.trod enc P w 0 sp held fuel t cs = some x → ∃ ts, GO w (PF w) cs ts ∧ IU P d t ts
 | 0, _, _, _, _, hp, _ => by cases hp
 | d + 1, fuel, t, cs, x, hp, hx => by
  unfold HH at hp
  unfold IU
  split at hp
  ·rename_i k hu
   obtain ⟨n, rfl, _, hw⟩ := DataW.trod_int hu hx
   exact ⟨[.val (.int k n)], ⟨.val _ rfl, trivial⟩, n, rfl, hw⟩
  ·rename_i hu
   obtain ⟨b, rfl, _⟩ := DataW.trod_bool hu hx
   exact ⟨[.val (.bool b)], ⟨.val _ rfl, trivial⟩, b, rfl⟩
  ·rename_i hu
   obtain ⟨b, rfl, _⟩ := DataW.trod_string hu hx
   exact ⟨[.val (.string b)], ⟨.val _ rfl, trivial⟩, b, rfl⟩
  ·rename_i e hu
   simp only [zC, decide_eq_true_eq] at hp
   rcases DataW.trod_slice hu hx with ⟨rfl, _⟩ | ⟨a, len, cap, elems, rest, n, rfl, rfl, _, _, hl, _, hlen, hel, _, _⟩
   ·exact ⟨[.sl []], ⟨.nil none 0, trivial⟩, [], rfl, fun row h => by cases h⟩
   ·have hrow : ∀ i, i < len → ∃ row, ∃ csi, w.cells? 0 (a.add (i * P.cellsOf e)) (P.cellsOf e) = some csi ∧ GO w (PF w) csi row ∧ IU P d e row := by
     intro i hi
     have h1 := hel i hi
     have h2 : elems[i]? = some (elems[i]'(by omega)) := by simp [show i < elems.length from by omega]
     rw [h2] at h1
     obtain ⟨csi, h3, h4⟩ := Option.bind_eq_some_iff.1 h1
     obtain ⟨row, h5, h6⟩ := N8 d n e csi _ hp.2 h4
     exact ⟨row, csi, h3, h5, h6⟩
    obtain ⟨rows, hrl, hrows⟩ := KN len hrow
    subst hrl
    refine ⟨[.sl rows], ⟨?_, trivial⟩, rows, rfl, fun row hm => ?_⟩
    ·cases hr0 : rows with
     | nil => exact .nil _ _
     | cons r0 rs0 =>
      rw [← hr0]
      have hpos : 0 < rows.length := by rw [hr0]; simp
      -- each cell
      have hcell : ∀ (i : Nat) (row : List T) (j : Nat) (u : T), rows[i]? = some row → row[j]? = some u → j < P.cellsOf e ∧ ∃ v, w.cell? ((a.add (i * P.cellsOf e)).add j) = some v ∧ Cw w (PF w) v u := by
       intro i row j u hi hj
       obtain ⟨csi, h1, h2, _⟩ := hrows i row hi
       obtain ⟨v, h3, h4⟩ := h2.get j u hj
       unfold World.cells? at h1
       rw [if_pos (zT _)] at h1
       obtain ⟨h5, h6⟩ := Iz h1
       have hjl : j < P.cellsOf e := by have := AB h3; omega
       exact ⟨hjl, v, by rw [h6 j hjl, h3], h4⟩
      have hrlen : ∀ (i : Nat) (row : List T), rows[i]? = some row → row.length = P.cellsOf e := by
       intro i row hi
       obtain ⟨csi, h1, h2, _⟩ := hrows i row hi
       unfold World.cells? at h1
       rw [if_pos (zT _)] at h1
       obtain ⟨h5, _⟩ := Iz h1
       rw [← h2.len, h5]
      have hget : ∀ i (hi : i < rows.length), rows[i]? = some (rows[i]'hi) := fun i hi => by simp [hi]
      have hr00 := hget 0 hpos
      have hl0 := hrlen 0 _ hr00
      obtain ⟨_, v0, hv0, _⟩ := hcell 0 _ 0 ((rows[0]'hpos)[0]'(by omega)) hr00 (by simp)
      have hadd0 : (a.add (0 * P.cellsOf e)).add 0 = a := by simp [Addr.add]
      rw [hadd0] at hv0
      have hspot := World.cell?_spot hv0
      obtain ⟨β, off, spot⟩ := a
      simp only at hspot
      subst hspot
      obtain ⟨arr, el, fz, hb, _⟩ := Ol hv0
      have hadd : ∀ i j : Nat, ((⟨β, off, none⟩ : Addr).add (i * P.cellsOf e)).add j = ⟨β, off + i * P.cellsOf e + j, none⟩ := by
       intro i j
       unfold Addr.add
       split
       ·rename_i h1
        split
        ·rename_i h2; rw [h2]; simp
        ·rename_i h2; simp only [Addr.mk.injEq, true_and, and_true]; omega
       ·split <;> simp_all <;> omega
      have hat : ∀ (i : Nat) (row : List T) (j : Nat) (u : T), rows[i]? = some row → row[j]? = some u → off + i * P.cellsOf e + j < arr.size ∧ Cw w (PF w) (Au arr (off + i * P.cellsOf e + j)) u := by
       intro i row j u hi hj
       obtain ⟨_, v, h1, h2⟩ := hcell i row j u hi hj
       rw [hadd] at h1
       obtain ⟨arr', el', fz', h3, h4⟩ := Ol h1
       rw [hb] at h3; cases h3
       have hlt : off + i * P.cellsOf e + j < arr.size := by
        rcases yB (off + i * P.cellsOf e + j) arr.size with h | h
        ·exact h
        ·rw [yE h] at h4; cases h4
       refine ⟨hlt, ?_⟩
       have : Au arr (off + i * P.cellsOf e + j) = v := by unfold Au; rw [h4]; rfl
       rw [this]; exact h2
      refine .sl β off cap (P.cellsOf e) arr el fz rows (SU hb) hb hl ?_ hrlen (fun i row j u hi hj => (hat i row j u hi hj).2)
      have hil := hget (rows.length - 1) (by omega)
      have hll := hrlen _ _ hil
      have h7 := (hat (rows.length - 1) _ (P.cellsOf e - 1) ((rows[rows.length - 1]'(by omega))[P.cellsOf e - 1]'(by omega)) hil (by simp)).1
      have h8 : rows.length * P.cellsOf e = (rows.length - 1) * P.cellsOf e + P.cellsOf e := by
       rw [← yH]; congr 1; omega
      omega
    ·obtain ⟨i, hi⟩ := zO.1 hm
     obtain ⟨_, _, _, h⟩ := hrows i row hi
     exact h
  ·rename_i fs hu
   simp only [zC] at hp
   obtain ⟨xs, n, rfl, _, hcl, hxl, hf⟩ := DataW.trod_struct hu hx
   have := Ni (enc := enc) (sp := sp) (held := held) (cs := cs) (fun t cs x h1 h2 => N8 d n t cs x h1 h2) fs.toList 0 (by rw [hcl]; exact hp.1) hp.2 (fun f hm => by
    obtain ⟨i, hi⟩ := zO.1 hm
    have hi' : fs[i]? = some f := by simpa using hi
    have h1 := hf i f hi'
    have hlt : i < fs.size := by
     have := AB hi
     simpa using this
    exact ⟨xs[i]'(by omega), by rw [h1]; simp [show i < xs.length from by omega]⟩)
   simpa using this
  ·cases hp
end
end Go.Lift
namespace Go.Lift
open Go.RowKit Go.ChangeShapes Go.WideShapes
section
variable {P : Program}
def UK (P : Program) (t : TypeId) (us : List T) : D := match P.underlying t with
 | some (.struct _) => .e (.agg (us.map .pure))
 | _ => .e (.one (.pure (us.headD .nil0)))
def H4 (P : Program) (d : Nat) : List TypeId → List D → Prop
 | [], [] => True
 | t :: ts, x :: xs => (∃ us, IU P d t us ∧ x = UK P t us) ∧ H4 P d ts xs
 | _, _ => False
theorem U4 {H : Type} {enc : TypeId × Value → H} {w : World} {d base : Nat} {t : TypeId} {v : Value} {x : DataW H} {ps : List MemPlace} (hp : HH P d t = true) (hval : Value.okWide P w .any base t v) (h : DataW.Trod enc P w 0 (fun _ => true) true t v x ps) :
  ∃ us, IU P d t us ∧ FT P w (G0 (PF w)) v (UK P t us) := by
 obtain ⟨fuel, hf⟩ := h
 obtain ⟨us, h1, h2⟩ := N8 d fuel t _ _ hp hf
 refine ⟨us, h2, ?_⟩
 have single : ∀ (v : Value), v.cells.toList = [v] → GO w (PF w) v.cells.toList us → FT P w (G0 (PF w)) v (.e (.one (.pure (us.headD .nil0)))) := by
  intro v hv hr
  rw [hv] at hr
  match us, hr with
  | [u], hr => exact hr.1
 unfold UK
 cases d with
 | zero => cases hp
 | succ d =>
  unfold HH at hp
  split at hp
  ·rename_i k hu
   rw [hu]
   obtain ⟨n, rfl⟩ := okWide_int hu hval
   exact single _ rfl h1
  ·rename_i hu
   rw [hu]
   obtain ⟨n, rfl⟩ := okWide_bool hu hval
   exact single _ rfl h1
  ·rename_i hu
   rw [hu]
   obtain ⟨n, rfl⟩ := okWide_string hu hval
   exact single _ rfl h1
  ·rename_i e hu
   rw [hu]
   obtain ⟨a, len, cap, rfl⟩ := okWide_slice hu hval
   exact single _ rfl h1
  ·rename_i fs hu
   rw [hu]
   simp only [Value.okWide, hu] at hval
   obtain ⟨cs, rfl, _, _⟩ := hval
   have h1 : GO w (PF w) cs.toList us := h1
   refine ⟨cs, rfl, by simpa using h1.len, fun j c hj => ?_⟩
   rw [zG] at hj
   cases hx : us[j]? with
   | none => rw [hx] at hj; cases hj
   | some u =>
    rw [hx] at hj; cases hj
    obtain ⟨v, h3, h4⟩ := h1.get j u hx
    have : Au cs j = v := by unfold Au; rw [show cs[j]? = some v from by simpa using h3]; rfl
    rw [this]; exact h4
  ·cases hp
theorem Qi {H : Type} {enc : TypeId × Value → H} {w : World} {d base : Nat} : ∀ {ts : List TypeId} {vs : List Value} {ds : List (DataW H)} {ps : List MemPlace}, (ts.all (HH P d)) = true → (∀ (j : Nat) t v, ts[j]? = some t → vs[j]? = some v → Value.okWide P w .any base t v) →
  DataW.TrodAll enc P w 0 (fun _ => true) true ts vs ds ps → ∃ Ds, H4 P d ts Ds ∧ vs.length = Ds.length ∧ ds.length = ts.length ∧ ∀ (j : Nat) (x : D), Ds[j]? = some x → ∃ v, vs[j]? = some v ∧ FT P w (G0 (PF w)) v x
 | [], [], [], _, _, _, _ => ⟨[], trivial, rfl, rfl, fun j x h => by simp at h⟩
 | t :: ts, v :: vs, x :: xs, _, hp, hval, h => by
  obtain ⟨p, q, h1, h2, _⟩ := h
  simp only [yK, zC] at hp
  obtain ⟨us, h3, h4⟩ := U4 hp.1 (hval 0 t v rfl rfl) h1
  obtain ⟨Ds, h5, h6, h7, h8⟩ := Qi hp.2 (fun j t v hj hv => hval (j + 1) t v (by simpa using hj) (by simpa using hv)) h2
  refine ⟨UK P t us :: Ds, ⟨⟨us, h3, rfl⟩, h5⟩, by simp [h6], by simp [h7], fun j y hj => ?_⟩
  cases j with
  | zero => simp at hj; subst hj; exact ⟨v, rfl, h4⟩
  | succ j =>
   obtain ⟨v', g1, g2⟩ := h8 j y (by simpa using hj)
   exact ⟨v', by simpa using g1, g2⟩
 | [], [], _ :: _, _, _, _, h => h.elim
 | [], _ :: _, _, _, _, _, h => by cases ‹List (DataW H)› <;> exact h.elim
 | _ :: _, [], _, _, _, _, h => by cases ‹List (DataW H)› <;> exact h.elim
 | _ :: _, _ :: _, [], _, _, _, h => h.elim
theorem Jw {H : Type} {enc : TypeId × Value → H} (hl : laidOutB P = true) {W W' : World} (hb : Below W.heap.size W W') : ∀ {ts : List TypeId} {vs : List Value} {ds : List (DataW H)} {ps : List MemPlace}, (ts.all fun t => P.readableRec t && decide (t < P.types.size)) = true →
  DataW.TrodAll enc P W 0 (fun _ => true) true ts vs ds ps → (∀ x ∈ ps, x.block < W.heap.size) → DataW.TrodAll enc P W' 0 (fun b => decide (b < W.heap.size)) true ts vs ds ps
 | [], [], [], _, _, h, _ => h
 | t :: ts, v :: vs, x :: xs, _, hr, h, hlt => by
  obtain ⟨p, q, h1, h2, rfl⟩ := h
  simp only [yK, zC, decide_eq_true_eq] at hr
  refine ⟨p, q, Below.trod hl hr.1.1 hr.1.2 h1 hb (fun y hy => hlt y (by simp [hy])), Jw hl hb (by simpa using hr.2) h2 (fun y hy => hlt y (by simp [hy])), rfl⟩
 | [], [], _ :: _, _, _, h, _ => h.elim
 | [], _ :: _, _, _, _, h, _ => by cases ‹List (DataW H)› <;> exact h.elim
 | _ :: _, [], _, _, _, h, _ => by cases ‹List (DataW H)› <;> exact h.elim
 | _ :: _, _ :: _, [], _, _, h, _ => h.elim
end
end Go.Lift
namespace Go.Lift
open Go.RowKit
section
variable {P : Program}
def Ny {α : Type} (P : Program) (t : TypeId) (e : α → List T) (W : α → Prop) : Prop := ∀ (d : Nat) (ts : List T), IU P d t ts → ∃ x, ts = e x ∧ W x
theorem QH {t : TypeId} {k : IntKind} {e : Int → List T} (h : N3 P t k = true) (he : ∀ n, e n = [.val (.int k n)]) : Ny P t e (fun n => (Lit.int k n).wf = true) := by
 intro d ts hf
 cases d with
 | zero => exact hf.elim
 | succ d =>
  unfold N3 at h
  unfold IU at hf
  split at h
  ·rename_i k' hu
   rw [hu] at hf
   obtain ⟨n, rfl, hw⟩ := hf
   have : k' = k := by simpa using h
   subst this
   exact ⟨n, (he n).symm, hw⟩
  ·cases h
theorem RF {t : TypeId} {e : Bool → List T} (h : Um P t = true) (he : ∀ n, e n = [.val (.bool n)]) : Ny P t e (fun _ => True) := by
 intro d ts hf
 cases d with
 | zero => exact hf.elim
 | succ d =>
  unfold Um at h
  unfold IU at hf
  split at h
  ·rename_i hu
   rw [hu] at hf
   obtain ⟨n, rfl⟩ := hf
   exact ⟨n, (he n).symm, trivial⟩
  ·cases h
theorem LW {α : Type} {e : α → List T} {W : α → Prop} : ∀ (rows : List (List T)), (∀ row, row ∈ rows → ∃ x, row = e x ∧ W x) → ∃ xs : List α, rows = xs.map e ∧ ∀ x, x ∈ xs → W x
 | [], _ => ⟨[], rfl, fun x h => by cases h⟩
 | r :: rows, h => by
  obtain ⟨x, rfl, hx⟩ := h r (by simp)
  obtain ⟨xs, rfl, hxs⟩ := LW rows (fun row hr => h row (by simp [hr]))
  exact ⟨x :: xs, rfl, fun y hy => by
   rcases zX.1 hy with e | e
   ·subst e; exact hx
   ·exact hxs y e⟩
theorem G5 {α : Type} {t el : TypeId} {e : α → List T} {W : α → Prop} {e2 : List α → List T} (h : sliceB P t el = true) (he : Ny P el e W) (h2 : ∀ xs, e2 xs = [.sl (xs.map e)]) : Ny P t e2 (fun xs => ∀ x, x ∈ xs → W x) := by
 intro d ts hf
 cases d with
 | zero => exact hf.elim
 | succ d =>
  unfold sliceB at h
  unfold IU at hf
  split at h
  ·rename_i e' hu
   rw [hu] at hf
   obtain ⟨rows, rfl, hr⟩ := hf
   have : e' = el := by simpa using h
   subst this
   obtain ⟨xs, rfl, hxs⟩ := LW rows (fun row hm => he d row (hr row hm))
   exact ⟨xs, (h2 xs).symm, hxs⟩
  ·cases h
def F6 (P : Program) (t : TypeId) : Option (List TypeId) := match P.underlying t with | some (.struct fs) => some (fs.toList.map (·.type)) | _ => none
theorem Hb {t : TypeId} {tys : List TypeId} (h : F6 P t = some tys) {d : Nat} {ts : List T} (hf : IU P d t ts) : ∃ d', To (IU P d') tys ts := by
 cases d with
 | zero => exact hf.elim
 | succ d =>
  unfold F6 at h
  unfold IU at hf
  split at h
  ·rename_i fs hu
   cases h
   rw [hu] at hf
   exact ⟨d, hf⟩
  ·cases h
theorem Po {t : TypeId} {tys : List TypeId} (h : F6 P t = some tys) (us : List T) : UK P t us = .e (.agg (us.map .pure)) := by
 unfold F6 at h
 unfold UK
 revert h
 cases P.underlying t with
 | none => intro h; cases h
 | some k => cases k <;> intro h <;> first | rfl | cases h
theorem NX {d : Nat} {t : TypeId} {ts : List TypeId} {Ds : List D} (h : H4 P d (t :: ts) Ds) : ∃ us xs, Ds = UK P t us :: xs ∧ IU P d t us ∧ H4 P d ts xs := by
 cases Ds with
 | nil => exact h.elim
 | cons x xs => obtain ⟨⟨us, h1, rfl⟩, h2⟩ := h; exact ⟨us, xs, rfl, h1, h2⟩
theorem O0 {d : Nat} {Ds : List D} (h : H4 P d [] Ds) : Ds = [] := by
 cases Ds with
 | nil => rfl
 | cons x xs => exact h.elim
end
end Go.Lift
namespace Go.Lift
open List renaming mem_of_getElem? → lM
open List renaming getD_eq_getElem?_getD → lD
open Go.RowKit
variable {P : Program} {X : Gy} {ops : Array Oper}
instance : Inhabited Bp := ⟨.gone⟩
def Hj (n m b : Nat) : Bool := if BI b then uK (b - 90000) n else uK b m
def Qs (G : Gh) (n : Nat) (β : Nat) : Prop := ∃ k, k < n ∧ G.has (90000 + k) β
theorem G7 {k : Nat} (h : k < 1000) : BI (90000 + k) = true := by
 unfold BI
 rw [xC (by omega), xC (by omega)]; rfl
theorem Q9 {k : Nat} (h : k < 900) : Nm (90000 + k) = true := by
 unfold Nm
 rw [zC]
 exact ⟨xC (by omega), xC (by omega)⟩
theorem H7 {b : Nat} (h : BI b = true) : ∃ k, k < 1000 ∧ b = 90000 + k := by
 unfold BI at h
 rw [zC] at h
 have h1 := zW h.1
 have h2 := zW h.2
 exact ⟨b - 90000, by omega, by omega⟩
def DI (P : Program) (f : FuncId) (args : List D) (lent : List (Bp × Bp)) (rv : List Bp) (res : D) : Prop :=
 ∀ (w : World) (G : Gh) (vs : Array Value), (∀ β, G.S β → β < w.heap.size) → SO P w G.S →
  (∀ (k : Nat) (x : Bp × Bp), lent[k]? = some x → Ee P w G (90000 + k) x.1) →
  (∀ k β, k < lent.length → G.has (90000 + k) β → β < w.heap.size ∧ ¬ G.S β) →
  (∀ k l β, k < lent.length → l < lent.length → G.has (90000 + k) β → G.has (90000 + l) β → k = l) →
  vs.size = args.length → (∀ (j : Nat) (d : D), args[j]? = some d → FT P w G (Au vs j) d) →
  Calls P f vs w fun e w' => ∃ v G', e = .returned v ∧ CL (Qs G lent.length) w.heap.size w w' ∧ (∀ β, G.S β → G'.S β) ∧ (∀ β, G'.S β → G.S β ∨ (w.heap.size ≤ β ∧ β < w'.heap.size)) ∧ FT P w' G' v res ∧
   (∀ (k : Nat) (x : Bp × Bp), lent[k]? = some x → Ee P w' G' (90000 + k) x.2) ∧
   (∀ (k : Nat) (x : Bp), rv[k]? = some x → Ee P w' G' k x) ∧
   (∀ k, k < lent.length → G'.loc (90000 + k) = G.loc (90000 + k) ∧ G'.hd (90000 + k) = G.hd (90000 + k) ∧ G'.more (90000 + k) = G.more (90000 + k)) ∧
   (∀ k β, k < lent.length → G'.has (90000 + k) β → ¬ G'.S β) ∧
   (∀ k β, k < rv.length → G'.has k β → w.heap.size ≤ β ∧ β < w'.heap.size ∧ ¬ G'.S β) ∧
   (∀ k l β, k < rv.length → l < rv.length → G'.has k β → G'.has l β → k = l)
def Nk (args : List D) (lent : List (Bp × Bp)) : St := ⟨fun s => args[s]?, fun b => if BI b then (lent[b - 90000]?).map (·.1) else none⟩
def Nu (bx : Nat → Option Bp) (f : Nat → Nat) : Nat → List (Bp × Bp) → Prop
 | _, [] => True
 | k, x :: xs => bx (90000 + k) = some (x.2.ren f) ∧ Nu bx f (k + 1) xs
def Py (bx : Nat → Option Bp) (f : Nat → Nat) : Nat → List Bp → Prop
 | _, [] => True
 | k, x :: xs => bx (1000 + k) = some (x.ren f) ∧ Py bx f (k + 1) xs
theorem KZ {bx : Nat → Option Bp} {f : Nat → Nat} : ∀ {l : List (Bp × Bp)} {m : Nat}, Nu bx f m l → ∀ (k : Nat) (x : Bp × Bp), l[k]? = some x → bx (90000 + (m + k)) = some (x.2.ren f)
 | y :: rv, m, h, 0, x, hk => by simp at hk; subst hk; exact h.1
 | y :: rv, m, h, k + 1, x, hk => by
  have := KZ h.2 k x (by simpa using hk)
  rwa [show m + 1 + k = m + (k + 1) from by omega] at this
theorem LD {bx : Nat → Option Bp} {f : Nat → Nat} : ∀ {l : List Bp} {m : Nat}, Py bx f m l → ∀ (k : Nat) (x : Bp), l[k]? = some x → bx (1000 + (m + k)) = some (x.ren f)
 | y :: rv, m, h, 0, x, hk => by simp at hk; subst hk; exact h.1
 | y :: rv, m, h, k + 1, x, hk => by
  have := LD h.2 k x (by simpa using hk)
  rwa [show m + 1 + k = m + (k + 1) from by omega] at this
def Ji (b : Nat) : Nat := if BI b then b else 1000 + b
structure RY (P : Program) (rs : List ResultVar) (st : St) (lent : List (Bp × Bp)) (rv : List Bp) (res : D) : Prop where
 r : ∃ xs, VB P st rs xs ∧ VP xs = res.ren Ji
 l : Nu st.bx Ji 0 lent
 v : Py st.bx Ji 0 rv
def Gu (n m : Nat) (l : List Nat) : Bool := l.all (Hj n m)
theorem Dp {f n : Nat} {fn : Func} {c : Code} {args : List D} {lent : List (Bp × Bp)} {rv : List Bp} {res : D} {rs : List ResultVar} (hf : P.funcs[f]? = some fn) (hb : fn.body = some c) (hn : fn.ntmps = n) (hrs : fn.results.toList = rs) (hl : args.length ≤ n) (hn9 : n ≤ 90000)
  (hargs : (args.all fun d => Gu lent.length 0 d.names) = true) (hpre : (lent.all fun x => Gu lent.length 0 x.1.names && x.1.real && x.2.real) = true) (hll : lent.length ≤ 900) (hrl : (rv.all fun x => x.real) = true) (hrn : rv.length ≤ 1000)
  (h : ∀ (w0 : World) (S0 : Nat → Prop) (GL : Gh), W P ⟨w0, S0, n, GL⟩ c (fun e st => match e with | .normal | .ret => RY P rs st lent rv res | _ => False) (Nk args lent)) : DI P f args lent rv res := by
 subst hn; subst hrs
 intro w G vs hS hgk hlb hla hli hlen hrd
 refine calls_of_wp hf hb ?_
 have hcell : ∀ j, j < args.length → Au (vs ++ xU (fn.ntmps - vs.size) undef) j = Au vs j := fun j hj => CI (by omega)
 -- the ghost that knows of what is lent alone
 let dom : Nat → Prop := fun b => BI b = true ∧ b - 90000 < lent.length
 have hdec : ∀ b, Decidable (dom b) := fun b => inferInstanceAs (Decidable (_ ∧ _))
 let GL : Gh := { S := G.S, loc := fun b => if dom b then G.loc b else none, hd := fun b => if dom b then G.hd b else undef, more := fun b => if dom b then G.more b else fun _ => False }
 have hext : G.ext GL dom := ⟨fun _ h => h, fun b hb => if_pos hb, fun b hb => if_pos hb, fun b hb => if_pos hb⟩
 have hdomk : ∀ k, k < lent.length → dom (90000 + k) := fun k hk => ⟨G7 (by omega), by omega⟩
 have hin : ∀ b, Hj lent.length 0 b = true → dom b := by
  intro b hb
  unfold Hj at hb
  split at hb
  ·rename_i hl; exact ⟨hl, by rwa [y9] at hb⟩
  ·simp [uK] at hb
 have hhas : ∀ b β, GL.has b β → dom b ∧ G.has b β := by
  intro b β hb
  by_cases hd : dom b
  ·exact ⟨hd, (hext.has hd).1 hb⟩
  ·exfalso
   unfold Gh.has at hb
   simp only [GL] at hb
   rw [if_neg hd, if_neg hd] at hb
   rcases hb with h | h
   ·cases h
   ·exact h
 have hlent : ∀ β, GL.lent β ↔ Qs G lent.length β := by
  intro β
  constructor
  ·rintro ⟨b, hb, hb2⟩
   obtain ⟨hd, hg⟩ := hhas b β hb2
   obtain ⟨k, _, rfl⟩ := H7 hb
   exact ⟨k, by have := hd.2; omega, hg⟩
  ·rintro ⟨k, hk, hg⟩
   exact ⟨90000 + k, G7 (by omega), (hext.has (hdomk k hk)).2 hg⟩
 have hbx : ∀ b k, (Nk args lent).bx b = some k → dom b ∧ ∃ x, lent[b - 90000]? = some x ∧ x.1 = k := by
  intro b k hk
  simp only [Nk] at hk
  split at hk
  ·rename_i hb
   cases hx : lent[b - 90000]? with
   | none => rw [hx] at hk; cases hk
   | some x => rw [hx] at hk; cases hk; exact ⟨⟨hb, AB hx⟩, x, rfl, rfl⟩
  ·cases hk
 have hdn : ∀ b, dom b → ((Nk args lent).bx b).isSome = true := by
  intro b hb
  simp only [Nk]
  rw [if_pos hb.1]
  simp [hb.2]
 have hpre' : ∀ x, x ∈ lent → Gu lent.length 0 x.1.names = true ∧ x.1.real = true ∧ x.2.real = true := fun x hx => by
  have := zD.1 hpre x hx
  rw [zC, zC] at this
  exact ⟨this.1.1, this.1.2, this.2⟩
 have hbk : ∀ b, dom b → b = 90000 + (b - 90000) := fun b hb => by obtain ⟨k, _, e⟩ := H7 hb.1; omega
 have hinit : CE P ⟨w, G.S, fn.ntmps, GL⟩ GL (Nk args lent) { tmps := vs ++ xU (fn.ntmps - vs.size) undef, defers := [] } w := by
  refine { S_lt := hS, S_src := fun β h => .inl h, S_0 := fun β h => h, S0_lt := hS, tsz := by simp; omega, defers := rfl, below := CL.refl _ _ _, gok := hgk, nlt := hn9, lent := fun _ _ => ⟨rfl, rfl, rfl⟩, blk := ?_, at_ok := ?_, at_inj := ?_, env := ?_, live := ?_, liveB := ?_ }
  ·intro b k hk
   obtain ⟨hd, x, hx, rfl⟩ := hbx b k hk
   have h1 := hlb _ x hx
   rw [← hbk b hd] at h1
   exact h1.mono hext hd (fun _ _ => rfl) (fun _ _ _ => rfl) fun c hc => hin c (zD.1 (hpre' x (lM hx)).1 c hc)
  ·intro b k β hk hr hβ
   obtain ⟨hd, hg⟩ := hhas b β hβ
   rw [hbk b hd] at hg
   have := hla _ β hd.2 hg
   exact ⟨⟨fun h3 => (by rw [hd.1] at h3; cases h3), .inr ⟨b, hd.1, hβ⟩⟩, this.1, this.2⟩
  ·intro b c k l β hk hl hr hr' hβ hβ'
   obtain ⟨hd, hg⟩ := hhas b β hβ
   obtain ⟨hd', hg'⟩ := hhas c β hβ'
   rw [hbk b hd] at hg
   rw [hbk c hd'] at hg'
   have := hli _ _ β hd.2 hd'.2 hg hg'
   rw [hbk b hd, hbk c hd', this]
  ·intro s d hs
   have hs' : args[s]? = some d := hs
   rw [hcell s (AB hs')]
   exact (hrd s d hs').mono hext (fun _ _ => rfl) fun b hb => hin b (zD.1 (zD.1 hargs d (lM hs')) b hb)
  ·intro s d hs b hb
   have hs' : args[s]? = some d := hs
   exact hdn b (hin b (zD.1 (zD.1 hargs d (lM hs')) b hb))
  ·intro b k hk c hc
   obtain ⟨hd, x, hx, rfl⟩ := hbx b k hk
   exact hdn c (hin c (zD.1 (hpre' x (lM hx)).1 c hc))
 refine wp_mono (h w G.S GL _ w ⟨_, hinit⟩) ?_
 rintro e a' w' ⟨st', hq, G2, hs⟩
 have key : RY P fn.results.toList st' lent rv res → a'.defers = [] ∧ ∃ v, (results fn a'.tmps).run P w' = .ok v w' ∧ ∃ v' G', Ending.returned v = .returned v' ∧ CL (Qs G lent.length) w.heap.size w w' ∧ (∀ β, G.S β → G'.S β) ∧ (∀ β, G'.S β → G.S β ∨ (w.heap.size ≤ β ∧ β < w'.heap.size)) ∧ FT P w' G' v' res ∧
   (∀ (k : Nat) (x : Bp × Bp), lent[k]? = some x → Ee P w' G' (90000 + k) x.2) ∧
   (∀ (k : Nat) (x : Bp), rv[k]? = some x → Ee P w' G' k x) ∧
   (∀ k, k < lent.length → G'.loc (90000 + k) = G.loc (90000 + k) ∧ G'.hd (90000 + k) = G.hd (90000 + k) ∧ G'.more (90000 + k) = G.more (90000 + k)) ∧
   (∀ k β, k < lent.length → G'.has (90000 + k) β → ¬ G'.S β) ∧
   (∀ k β, k < rv.length → G'.has k β → w.heap.size ≤ β ∧ β < w'.heap.size ∧ ¬ G'.S β) ∧
   (∀ k l β, k < rv.length → l < rv.length → G'.has k β → G'.has l β → k = l) := by
  rintro ⟨⟨xs, hr1, hr2⟩, hlp, hv⟩
  obtain ⟨us, h1, h2, h3⟩ := hs.rrs hr1
  have hoL : ∀ k, k < lent.length → Ji (90000 + k) = 90000 + k := fun k hk => by unfold Ji; rw [G7 (by omega)]; rfl
  have hoN : ∀ k, k < rv.length → Ji k = 1000 + k := fun k hk => by unfold Ji; rw [H0 (show k < 1000 by omega) (by omega)]; rfl
  have hbl : ∀ (k : Nat) (x : Bp × Bp), lent[k]? = some x → st'.bx (90000 + k) = some (x.2.ren Ji) := fun k x hk => by
   have := KZ hlp k x hk
   rwa [zI] at this
  have hbv : ∀ (k : Nat) (x : Bp), rv[k]? = some x → st'.bx (1000 + k) = some (x.ren Ji) := fun k x hk => by
   have := LD hv k x hk
   rwa [zI] at this
  have hreal : ∀ (k : Nat) (x : Bp), rv[k]? = some x → (x.ren Ji).real = true := fun k x hk => by
   rw [HZ]; exact zD.1 hrl x (lM hk)
  have hgl : ∀ k, k < lent.length → G2.loc (90000 + k) = G.loc (90000 + k) ∧ G2.hd (90000 + k) = G.hd (90000 + k) ∧ G2.more (90000 + k) = G.more (90000 + k) := fun k hk => by
   obtain ⟨e1, e2, e3⟩ := hs.lent (90000 + k) (Q9 (by omega))
   exact ⟨e1.trans (hext.loc _ (hdomk k hk)), e2.trans (hext.hd _ (hdomk k hk)), e3.trans (hext.more _ (hdomk k hk))⟩
  refine ⟨hs.defers, (if h : us.toArray.size = 1 then us.toArray[0] else .tuple us.toArray), ?_, _, { S := G2.S, loc := fun b => G2.loc (Ji b), hd := fun b => G2.hd (Ji b), more := fun b => G2.more (Ji b) }, rfl, ?_, hs.S_0, ?_, ?_, ?_, ?_, ?_, ?_, ?_, ?_⟩
  ·unfold results
   refine Ah (a := us.toArray) (w1 := w') ?_ rfl
   rw [Array.mapM_eq_mapM_toList]
   simp only [Sem.run_map]
   exact congrArg (fun r => Result.andThen r fun a w' => Result.ok a.toArray w') h1
  ·have hb := hs.below
   exact ⟨hb.os, hb.tape, hb.output, hb.size, hb.drawn, fun k hk hl => hb.block k hk fun h => hl ((hlent k).1 h)⟩
  ·intro β hβ
   rcases hs.S_src β hβ with h | h
   ·exact .inl h
   ·exact .inr ⟨h, hs.S_lt β hβ⟩
  ·refine H6 (f := Ji) ?_
   rw [← hr2]
   match xs, us, h2 with
   | [], [], _ => exact ⟨#[], rfl, rfl, fun j x h => by simp at h⟩
   | [x], [u], _ => exact h3 0 u x rfl rfl
   | x :: y :: xs, u :: u' :: us, hl2 =>
    refine ⟨(u :: u' :: us).toArray, by simp, by simpa using hl2, fun j z hj => ?_⟩
    have hlt := AB hj
    have hu : (u :: u' :: us)[j]? = some ((u :: u' :: us)[j]'(by rw [hl2]; exact hlt)) := by rw [zQ]
    have := h3 j _ z hu hj
    have hc : Au (u :: u' :: us).toArray j = (u :: u' :: us)[j]'(by rw [hl2]; exact hlt) := by
     unfold Au
     rw [List.getElem?_toArray, hu]; rfl
    rw [hc]; exact this
  ·intro k x hk
   refine Ie (f := Ji) ?_
   rw [hoL k (AB hk)]
   exact hs.blk _ _ (hbl k x hk)
  ·intro k x hk
   refine Ie (f := Ji) ?_
   rw [hoN k (AB hk)]
   exact hs.blk _ _ (hbv k x hk)
  ·intro k hk
   simp only [hoL k hk]
   exact hgl k hk
  ·intro k β hk hβ
   have hx : lent[k]? = some lent[k] := by simp [hk]
   have hβ : G2.has (90000 + k) β := by
    unfold Gh.has at hβ ⊢
    simp only [hoL k hk] at hβ
    exact hβ
   exact (hs.at_ok _ _ β (hbl k _ hx) (by rw [HZ]; exact (hpre' _ (lM hx)).2.2) hβ).2.2
  ·intro k β hk hβ
   have hx : rv[k]? = some rv[k] := by simp [hk]
   have hβ : G2.has (1000 + k) β := by
    unfold Gh.has at hβ ⊢
    simp only [hoN k hk] at hβ
    exact hβ
   have := hs.at_ok _ _ β (hbv k _ hx) (hreal k _ hx) hβ
   exact ⟨this.1.1 (H0 (show 1000 + k < 3000 by omega) (by omega)), this.2⟩
  ·intro k l β hk hl hβ hβ'
   have hx : rv[k]? = some rv[k] := by simp [hk]
   have hx' : rv[l]? = some rv[l] := by simp [hl]
   have hβ : G2.has (1000 + k) β := by
    unfold Gh.has at hβ ⊢
    simp only [hoN k hk] at hβ
    exact hβ
   have hβ' : G2.has (1000 + l) β := by
    unfold Gh.has at hβ' ⊢
    simp only [hoN l hl] at hβ'
    exact hβ'
   have := hs.at_inj _ _ _ _ β (hbv k _ hx) (hbv l _ hx') (hreal k _ hx) (hreal l _ hx') hβ hβ'
   omega
 cases e with
 | normal => exact key hq
 | ret => exact key hq
 | _ => exact hq.elim
def nu (ls ns : List Nat) (b : Nat) : Nat := if BI b then ls.getD (b - 90000) 0 else ns.getD b 0
def Mc (f : Nat → Nat) : List Nat → List (Bp × Bp) → List (Nat × Bp)
 | l :: ls, x :: xs => (l, x.1.ren f) :: Mc f ls xs
 | _, _ => []
def G6 (f : Nat → Nat) : List Nat → List (Bp × Bp) → List Bool → List (Nat × Bp) → List (Nat × Bp)
 | l :: ls, x :: xs, c :: cs, r => if c then (l, x.2.ren f) :: G6 f ls xs cs r else G6 f ls xs cs r
 | _, _, _, r => r
def newB (f : Nat → Nat) : List Nat → List Bp → List (Nat × Bp)
 | n :: ns, x :: xs => (n, x.ren f) :: newB f ns xs
 | _, _ => []
def Qf : List (Bp × Bp) → List Bool → Prop
 | x :: xs, c :: cs => (c = false → x.1 = x.2) ∧ Qf xs cs
 | [], [] => True
 | _, _ => False
theorem MV {f : Nat → Nat} {bx : Nat → Option Bp} : ∀ {ls : List Nat} {lent : List (Bp × Bp)}, ls.length = lent.length → Gb bx (Mc f ls lent) → ∀ (k : Nat) (x : Bp × Bp), lent[k]? = some x → bx (nm ls k) = some (x.1.ren f)
 | [], [], _, _, k, y, hk => by simp at hk
 | l :: ls, x :: xs, hl, h, 0, y, hk => by simp at hk; subst hk; exact h.1
 | l :: ls, x :: xs, hl, h, k + 1, y, hk => by
  have := MV (ls := ls) (lent := xs) (by simpa using hl) h.2 k y (by simpa using hk)
  simpa [nm] using this
theorem Nl {f : Nat → Nat} {bx : Nat → Option Bp} {r : List (Nat × Bp)} : ∀ {ls : List Nat} {lent : List (Bp × Bp)} {ch : List Bool}, ls.length = lent.length → ls.Nodup → Qf lent ch → (∀ c, c ∈ ls → BF bx r c = bx c) → Gb bx (Mc f ls lent) →
  (∀ c, c ∉ ls → BF bx (G6 f ls lent ch r) c = BF bx r c) ∧ ∀ (k : Nat) (x : Bp × Bp), lent[k]? = some x → BF bx (G6 f ls lent ch r) (nm ls k) = some (x.2.ren f)
 | [], [], [], _, _, _, _, _ => ⟨fun _ _ => rfl, fun k x h => by simp at h⟩
 | [], [], _ :: _, _, _, h, _, _ => h.elim
 | l :: ls, x :: xs, [], hl, hnd, hc, hr, hp => by cases hc
 | l :: ls, x :: xs, c :: cs, hl, hnd, hc, hr, hp => by
  have ih := Nl (f := f) (bx := bx) (r := r) (ls := ls) (lent := xs) (ch := cs) (by simpa using hl) (yU.1 hnd).2 hc.2 (fun c hc => hr c (by simp [hc])) hp.2
  have hln : l ∉ ls := (yU.1 hnd).1
  have hl0 : BF bx (G6 f ls xs cs r) l = bx l := (ih.1 l hln).trans (hr l (by simp))
  refine ⟨fun d hd => ?_, fun k y hk => ?_⟩
  ·simp only [zX, not_or] at hd
   simp only [G6]
   split
   ·simp only [BF]; rw [if_neg hd.1]; exact ih.1 d hd.2
   ·exact ih.1 d hd.2
  ·cases k with
   | zero =>
    simp at hk; subst hk
    simp only [G6, nm, List.getD_cons_zero]
    split
    ·simp [BF]
    ·rename_i hcc
     have hcf : c = false := by simpa using hcc
     rw [hl0, hp.1, hc.1 hcf]
   | succ k =>
    have hk' : xs[k]? = some y := by simpa using hk
    have hlt := AB hk'
    have hlt2 : k < ls.length := by simp at hl; omega
    have e : nm (l :: ls) (k + 1) = nm ls k := by simp [nm]
    rw [e]
    have hne : nm ls k ≠ l := fun h => hln (h ▸ Ev hlt2)
    simp only [G6]
    split
    ·simp only [BF]; rw [if_neg hne]; exact ih.2 k y hk'
    ·exact ih.2 k y hk'
theorem LS {f : Nat → Nat} {bx : Nat → Option Bp} : ∀ {ns : List Nat} {rv : List Bp} {c : Nat}, ns.length = rv.length → ns.Nodup →
  (c ∉ ns → BF bx (newB f ns rv) c = bx c) ∧ ∀ (k : Nat) (x : Bp), rv[k]? = some x → BF bx (newB f ns rv) (nm ns k) = some (x.ren f)
 | [], [], c, _, _ => ⟨fun _ => rfl, fun k x h => by simp at h⟩
 | n :: ns, x :: xs, c, hl, hnd => by
  have ih := LS (f := f) (bx := bx) (ns := ns) (rv := xs) (c := c) (by simpa using hl) (yU.1 hnd).2
  refine ⟨fun hc => ?_, fun k y hk => ?_⟩
  ·simp only [zX, not_or] at hc
   simp only [newB, BF]
   rw [if_neg hc.1]; exact ih.1 hc.2
  ·cases k with
   | zero => simp at hk; subst hk; simp [newB, BF, nm]
   | succ k =>
    have hk' : xs[k]? = some y := by simpa using hk
    have hlt := AB hk'
    have hlt2 : k < ns.length := by simp at hl; omega
    have : nm (n :: ns) (k + 1) = nm ns k := by simp [nm]
    rw [this]
    have hne : nm ns k ≠ n := fun e => (yU.1 hnd).1 (e ▸ Ev hlt2)
    simp only [newB, BF]
    rw [if_neg hne]
    exact (LS (f := f) (bx := bx) (ns := ns) (rv := xs) (c := c) (by simpa using hl) (yU.1 hnd).2).2 k y hk'
theorem FZ {ls ns : List Nat} {k : Nat} (h : k < 1000) : nu ls ns (90000 + k) = nm ls k := by
 unfold nu nm; rw [G7 h, if_pos rfl, show 90000 + k - 90000 = k from by omega]
theorem Ks {ls ns : List Nat} {k : Nat} (h : k < 90000) : nu ls ns k = nm ns k := by
 unfold nu nm; rw [H0 h (yY _), if_neg (by simp)]
theorem Ma {bx : Nat → Option Bp} {c : Nat} : ∀ {wb : List (Nat × Bp)}, (bx c).isSome = true → (BF bx wb c).isSome = true
 | [], h => h
 | p :: ps, h => by
  simp only [BF]; split
  ·rfl
  ·exact Ma h
section run
variable {dr : Bool} {Q : St → Prop} {r i : Nat} {st : St} {log : List (Nat × B7)} {o : Oper} {gs : List (Operand × D)}
theorem Rs {f s : Nat} {xs : List Operand} {ds0 ds : List D} {lent : List (Bp × Bp)} {rv : List Bp} {res : D} {ts : Array TypeId} (ls ns : List Nat) (ch : List Bool) (hc : DI P f ds lent rv res) (hat : At st.env ops i X.n (.call ⟨.value (.func f), xs.toArray, ts⟩) s gs)
  (hf : Ay P f = true) (hl : xs.length = ds0.length) (hds : ds0.map D.nrm = ds.map (D.ren (nu ls ns)))
  (hll : ls.length = lent.length) (hln : ls.Nodup) (hns : ns.length = rv.length) (hndl : Ix ns) (hch : Qf lent ch)
  (hlim : (yZ lent.length 1000 && yZ rv.length 1000) = true) (hre : (lent.all fun x => x.1.real && x.2.real) = true)
  (hnm : (Gu lent.length rv.length res.names && (lent.all fun x => Gu lent.length rv.length x.2.names) && rv.all fun x => Gu lent.length rv.length x.names) = true) : LR P X ops i ⟨gs ++ Gk xs ds0, Mc (nu ls ns) ls lent, some s, some (res.ren (nu ls ns)), G6 (nu ls ns) ls lent ch (newB (nu ls ns) ns rv), ns⟩ := by
 obtain ⟨o, ho, hop, hd, hn, hg, hgp⟩ := hat.out
 have hnd := hndl.1
 rw [zC] at hlim
 have hlim1 := zW hlim.1
 have hlim2 := zW hlim.2
 rw [zC, zC] at hnm
 obtain ⟨⟨hnmR, hnmL⟩, hnmV⟩ := hnm
 have hre' : ∀ x, x ∈ lent → x.1.real = true ∧ x.2.real = true := fun x hx => by
  have := zD.1 hre x hx
  rw [zC] at this
  exact this
 intro st a w K Q' hs hpre hK
 obtain ⟨G, hs⟩ := hs
 have hx := (Al.1 hpre.r).2
 have hw := hs.wanted hg (Al.1 hpre.r).1
 have hnew := hpre.n
 have hlb := hpre.b
 have hnew' : ∀ c, c ∈ ns → st.bx c = none := by
  have : ∀ {l : List Nat}, KC st.bx l → ∀ c, c ∈ l → st.bx c = none := by
   intro l
   induction l with
   | nil => intro _ c hc; cases hc
   | cons b l ih =>
    intro h c hc
    rcases zX.1 hc with e | e
    ·subst e; exact h.1
    ·exact ih h.2 c e
  exact this hnew
 have hget := fun k x hk => MV (f := nu ls ns) hll hlb k x hk
 have hlk : ∀ k, k < lent.length → st.bx (nm ls k) = some (lent[k]!.1.ren (nu ls ns)) ∧ (lent[k]!.1.ren (nu ls ns)).real = true := fun k hk => by
  have hx0 : lent[k]? = some lent[k]! := by simp [hk]
  exact ⟨hget k _ hx0, by rw [HZ]; exact (hre' _ (lM hx0)).1⟩
 have hlsns : ∀ c, c ∈ ls → c ∉ ns := fun c hc hm => by
  obtain ⟨k, hk, e⟩ := Mh hc
  have := (hlk k (by omega)).1
  rw [e, hnew' c hm] at this; cases this
 unfold wpOp
 rw [ho]
 simp only [hw, if_true]
 refine .inl ?_
 unfold Oper.wp
 have hrun : (execOp a.eval o).run P w = .ok (.enter f (xs.toArray.map a.eval)) w := by
  simp only [execOp, hop]
  exact IT hf rfl
 rw [hrun]
 show Calls P f (xs.toArray.map a.eval) w _
 let Gc : Gh := { S := G.S, loc := fun b => G.loc (nu ls ns b), hd := fun b => G.hd (nu ls ns b), more := fun b => G.more (nu ls ns b) }
 have hGc : ∀ k β, k < lent.length → (Gc.has (90000 + k) β ↔ G.has (nm ls k) β) := fun k β hk => by
  unfold Gh.has; simp only [Gc]; rw [FZ (by omega)]
 refine (hc w Gc (xs.toArray.map a.eval) hs.S_lt hs.gok ?_ ?_ ?_ ?_ ?_).mono ?_
 ·intro k x hk
  refine Ie (f := nu ls ns) ?_
  rw [FZ (by have := AB hk; omega)]
  exact hs.blk _ _ (hget k x hk)
 ·intro k β hk hβ
  have h1 := hlk k hk
  exact (hs.at_ok _ _ β h1.1 h1.2 ((hGc k β hk).1 hβ)).2
 ·intro k l β hk hl' hβ hβ'
  have h1 := hlk k hk
  have h2 := hlk l hl'
  have := hs.at_inj _ _ _ _ β h1.1 h2.1 h1.2 h2.2 ((hGc k β hk).1 hβ) ((hGc l β hl').1 hβ')
  exact NH hln (by omega) (by omega) this
 ·have h1 := congrArg xF hds
  simp at h1
  simp; omega
 ·intro j d hj
  have hj2 : (ds.map (D.ren (nu ls ns)))[j]? = some (d.ren (nu ls ns)) := by rw [zG, hj]; rfl
  rw [← hds, zG] at hj2
  obtain ⟨d0, hj0, hd0⟩ : ∃ d0, ds0[j]? = some d0 ∧ d0.nrm = d.ren (nu ls ns) := by
   cases hx0 : ds0[j]? with
   | none => rw [hx0] at hj2; cases hj2
   | some d0 => rw [hx0] at hj2; exact ⟨d0, rfl, by simpa using hj2⟩
  have hlt := AB hj0
  have hxj : xs[j]? = some (xs[j]'(by omega)) := by simp [show j < xs.length from by omega]
  have hop' := HW hl hx j _ d0 hxj hj0
  have hcell : Au (xs.toArray.map a.eval) j = a.eval (xs[j]'(by omega)) := by simp [Au, show j < xs.length from by omega]
  rw [hcell]
  refine H6 (f := nu ls ns) ?_
  rw [← hd0]
  exact (hs.opd hop').nrm
 ·rintro e w' ⟨v, G', rfl, hbel, hS1, hS2, hres', hpost, hvec, hsame, hlS, hvat, hvinj⟩
  show K (a.put o.dst v) w'
  rw [hd]
  let G2 : Gh := { S := G'.S, loc := fun c => if c ∈ ns then G'.loc (ns.idxOf c) else G.loc c, hd := fun c => if c ∈ ns then G'.hd (ns.idxOf c) else G.hd c, more := fun c => if c ∈ ns then G'.more (ns.idxOf c) else G.more c }
  have hidx : ∀ k, k < ns.length → ns.idxOf (nm ns k) = k := by
   intro k hk
   have hm := Ev hk
   have h1 : ns.idxOf (nm ns k) < ns.length := List.idxOf_lt_length_of_mem hm
   refine NH hnd h1 hk ?_
   have h2 := List.getElem_idxOf h1
   show ns.getD (ns.idxOf (nm ns k)) 0 = nm ns k
   rw [lD, zQ h1, yA, h2]
  have hvia : G'.via G2 (nu ls ns) (fun b => Hj lent.length rv.length b = true) := by
   have key : ∀ b, Hj lent.length rv.length b = true → (∃ k, k < lent.length ∧ b = 90000 + k) ∨ (b < rv.length ∧ BI b = false) := by
    intro b hb
    unfold Hj at hb
    split at hb
    ·rename_i h
     obtain ⟨k, _, rfl⟩ := H7 h
     rw [y9] at hb
     exact .inl ⟨k, by omega, rfl⟩
    ·rename_i h
     rw [y9] at hb
     exact .inr ⟨hb, by simpa using h⟩
   refine ⟨fun β h => h, fun b hb => ?_, fun b hb => ?_, fun b hb => ?_⟩
   ·rcases key b hb with ⟨k, hk, rfl⟩ | ⟨hb1, hb2⟩
    ·rw [FZ (by omega)]
     have hni : nm ls k ∉ ns := hlsns _ (Ev (by omega))
     simp only [G2]; rw [if_neg hni, (hsame k hk).1]; simp only [Gc]; rw [FZ (by omega)]
    ·rw [Ks (by omega)]
     simp only [G2]; rw [if_pos (Ev (by omega)), hidx b (by omega)]
   ·rcases key b hb with ⟨k, hk, rfl⟩ | ⟨hb1, hb2⟩
    ·rw [FZ (by omega)]
     have hni : nm ls k ∉ ns := hlsns _ (Ev (by omega))
     simp only [G2]; rw [if_neg hni, (hsame k hk).2.1]; simp only [Gc]; rw [FZ (by omega)]
    ·rw [Ks (by omega)]
     simp only [G2]; rw [if_pos (Ev (by omega)), hidx b (by omega)]
   ·rcases key b hb with ⟨k, hk, rfl⟩ | ⟨hb1, hb2⟩
    ·rw [FZ (by omega)]
     have hni : nm ls k ∉ ns := hlsns _ (Ev (by omega))
     simp only [G2]; rw [if_neg hni, (hsame k hk).2.2]; simp only [Gc]; rw [FZ (by omega)]
    ·rw [Ks (by omega)]
     simp only [G2]; rw [if_pos (Ev (by omega)), hidx b (by omega)]
  have hext : G.ext G2 (fun b => (st.bx b).isSome = true) := by
   have : ∀ b, (st.bx b).isSome = true → b ∉ ns := fun b hb hm => by rw [hnew' b hm] at hb; cases hb
   exact ⟨fun β h => hS1 β h, fun b hb => by simp only [G2]; rw [if_neg (this b hb)], fun b hb => by simp only [G2]; rw [if_neg (this b hb)], fun b hb => by simp only [G2]; rw [if_neg (this b hb)]⟩
  have hnotL : ∀ β, Qs Gc lent.length β → ∃ k, k < lent.length ∧ G.has (nm ls k) β := fun β ⟨k, hk, hb⟩ => ⟨k, hk, (hGc k β hk).1 hb⟩
  have hwS : ∀ β, G.S β → w'.heap[β]? = w.heap[β]? := fun β hβ => hbel.block β (hs.S_lt β hβ) fun h => by
   obtain ⟨k, hk, hg⟩ := hnotL β h
   exact (hs.at_ok _ _ β (hlk k hk).1 (hlk k hk).2 hg).2.2 hβ
  have hsz := hbel.size
  have hle := hs.below.size
  have hng := fun c => LS (f := nu ls ns) (bx := st.bx) (ns := ns) (rv := rv) (c := c) hns hnd
  have hbg := Nl (f := nu ls ns) (bx := st.bx) (r := newB (nu ls ns) ns rv) (ls := ls) (lent := lent) (ch := ch) hll hln hch (fun c hc => (hng c).1 (hlsns c hc)) hlb
  have hblk : ∀ c k, BF st.bx (G6 (nu ls ns) ls lent ch (newB (nu ls ns) ns rv)) c = some k →
    (c ∉ ns ∧ c ∉ ls ∧ st.bx c = some k) ∨ (∃ m x, m < ns.length ∧ nm ns m = c ∧ rv[m]? = some x ∧ k = x.ren (nu ls ns)) ∨ (∃ m x, m < ls.length ∧ nm ls m = c ∧ lent[m]? = some x ∧ k = x.2.ren (nu ls ns)) := by
   intro c k hc
   by_cases hm : c ∈ ls
   ·obtain ⟨m, hm1, hm2⟩ := Mh hm
    have hlx : lent[m]? = some (lent[m]'(by omega)) := by simp [show m < lent.length from by omega]
    have := hbg.2 m _ hlx
    rw [hm2, hc] at this
    exact .inr (.inr ⟨m, _, hm1, hm2, hlx, by simpa using this⟩)
   ·rw [hbg.1 c hm] at hc
    by_cases hm2 : c ∈ ns
    ·obtain ⟨m, hm1, hm3⟩ := Mh hm2
     have hrx : rv[m]? = some (rv[m]'(by omega)) := by simp [show m < rv.length from by omega]
     have := (hng c).2 m _ hrx
     rw [hm3, hc] at this
     exact .inr (.inl ⟨m, _, hm1, hm3, hrx, by simpa using this⟩)
    ·rw [(hng c).1 hm2] at hc; exact .inl ⟨hm2, hm, hc⟩
  have hdom : ∀ b, Hj lent.length rv.length b = true → (BF st.bx (G6 (nu ls ns) ls lent ch (newB (nu ls ns) ns rv)) (nu ls ns b)).isSome = true := by
   intro b hb
   unfold Hj at hb
   split at hb
   ·rename_i h
    obtain ⟨k, _, rfl⟩ := H7 h
    rw [y9] at hb
    have hk : k < lent.length := by omega
    rw [FZ (by omega), hbg.2 k _ (show lent[k]? = some lent[k] by simp [hk])]; rfl
   ·rename_i h
    rw [y9] at hb
    have hni : nm ns b ∉ ls := fun hm => hlsns _ hm (Ev (by omega))
    rw [Ks (by omega), hbg.1 _ hni, (hng (nm ns b)).2 b _ (show rv[b]? = some rv[b] by simp [hb])]; rfl
  have hren : ∀ l : List Nat, Gu lent.length rv.length l = true → ∀ b, b ∈ l → Hj lent.length rv.length b = true := fun l h b hb => zD.1 h b hb
  have hrenB : ∀ (k : Bp) b, b ∈ (k.ren (nu ls ns)).names → ∃ b0, b0 ∈ k.names ∧ b = nu ls ns b0 := by
   intro k b hb
   cases k with
   | box cs =>
    obtain ⟨c, hc, hb⟩ := Be.1 hb
    obtain ⟨c0, h0, rfl⟩ := yN.1 hc
    obtain ⟨b0, h1, h2⟩ := IG hb
    exact ⟨b0, Be.2 ⟨c0, h0, h1⟩, h2⟩
   | vec e rows => cases hb
   | mp es => cases hb
   | dvec e cols rs => cases hb
   | pvec n e cols rs => cases hb
   | hol e cols i0 k0 c rs => exact ⟨c, by simp [Bp.names], by simpa [Bp.ren, Bp.names] using hb⟩
   | gone => cases hb
  have hhasN : ∀ m β, m < ns.length → (G2.has (nm ns m) β ↔ G'.has m β) := fun m β hm => by
   have hmd : Hj lent.length rv.length m = true := by
    unfold Hj; rw [H0 (show m < 90000 by omega) (yY _), if_neg (by simp), y9]; omega
   have := hvia.has (β := β) hmd
   rwa [Ks (by omega)] at this
  have key : CE P X G2 ⟨st.env, BF st.bx (G6 (nu ls ns) ls lent ch (newB (nu ls ns) ns rv))⟩ a w' := by
   refine hs.frame (fun c hc => Ma hc) hext hwS ?_ ?_ ?_ ?_ ?_ ?_ (fun b hb => by
    have : b ∉ ns := fun hm => by rw [hndl.2 b hm] at hb; cases hb
    simp only [G2]; rw [if_neg this, if_neg this, if_neg this]; exact ⟨rfl, rfl, rfl⟩)
   ·intro c k hc
    rcases hblk c k hc with ⟨_, h0, h1⟩ | ⟨m, x, h1, h2, h3, h4⟩ | ⟨m, x, h1, h2, h3, h4⟩
    ·refine .inl ⟨h1, fun β hr hβ => hbel.block β (hs.at_ok c k β h1 hr hβ).2.1 fun hL => ?_⟩
     obtain ⟨j, hj, hg⟩ := hnotL β hL
     exact h0 ((hs.at_inj _ _ _ _ β h1 (hlk j hj).1 hr (hlk j hj).2 hβ hg) ▸ Ev (by omega))
    ·subst h4
     have hmd : Hj lent.length rv.length m = true := by
      unfold Hj; rw [H0 (show m < 90000 by omega) (yY _), if_neg (by simp), y9]; omega
     have hxn := hren _ (zD.1 hnmV x (lM h3))
     refine .inr ⟨?_, fun c' hc' => ?_⟩
     ·have := (hvec m x h3).ren hvia hmd hxn
      rwa [Ks (by omega), h2] at this
     ·obtain ⟨b0, hb0, rfl⟩ := hrenB x c' hc'
      exact hdom b0 (hxn b0 hb0)
    ·subst h4
     have hmd : Hj lent.length rv.length (90000 + m) = true := by
      unfold Hj; rw [G7 (by omega), if_pos rfl, y9]; omega
     have hxn := hren _ (zD.1 hnmL x (lM h3))
     refine .inr ⟨?_, fun c' hc' => ?_⟩
     ·have := (hpost m x h3).ren hvia hmd hxn
      rwa [FZ (by omega), h2] at this
     ·obtain ⟨b0, hb0, rfl⟩ := hrenB x.2 c' hc'
      exact hdom b0 (hxn b0 hb0)
   ·intro c k β hc hr hβ
    rcases hblk c k hc with ⟨h0, _, h1⟩ | ⟨m, x, h1, h2, h3, h4⟩ | ⟨m, x, h1, h2, h3, h4⟩
    ·have hβ := (hext.has (by rw [h1]; rfl)).1 hβ
     have := hs.at_ok c k β h1 hr hβ
     refine ⟨this.1, by omega, fun h => ?_⟩
     rcases hS2 β h with h | h
     ·exact this.2.2 h
     ·omega
    ·rw [← h2, hhasN m β h1] at hβ
     have := hvat m β (by omega) hβ
     exact ⟨.new (by omega), this.2.1, this.2.2⟩
    ·subst h2
     have h5 := hlk m (by omega)
     have hβ := (hext.has (by rw [h5.1]; rfl)).1 hβ
     have := hs.at_ok _ _ β h5.1 h5.2 hβ
     refine ⟨this.1, by omega, hlS m β (by omega) ?_⟩
     have h6 := hsame m (by omega)
     unfold Gh.has at hβ ⊢
     rw [h6.1, h6.2.2]
     simp only [Gc]; rw [FZ (by omega)]; exact hβ
   ·intro c c' k k' β hc hc' hr hr' hβ hβ'
    have old : ∀ c k, BF st.bx (G6 (nu ls ns) ls lent ch (newB (nu ls ns) ns rv)) c = some k → k.real = true → G2.has c β → (∃ k0, st.bx c = some k0 ∧ k0.real = true ∧ G.has c β) ∨ ∃ m, m < ns.length ∧ nm ns m = c ∧ G'.has m β := by
     intro c k hc hr hβ
     rcases hblk c k hc with ⟨h0, _, h1⟩ | ⟨m, x, h1, h2, h3, h4⟩ | ⟨m, x, h1, h2, h3, h4⟩
     ·exact .inl ⟨k, h1, hr, (hext.has (by rw [h1]; rfl)).1 hβ⟩
     ·rw [← h2, hhasN m β h1] at hβ
      exact .inr ⟨m, h1, h2, hβ⟩
     ·subst h2
      have h5 := hlk m (by omega)
      exact .inl ⟨_, h5.1, h5.2, (hext.has (by rw [h5.1]; rfl)).1 hβ⟩
    rcases old c k hc hr hβ with ⟨k0, h1, h2, h3⟩ | ⟨m, h1, h2, h3⟩ <;> rcases old c' k' hc' hr' hβ' with ⟨k0', h1', h2', h3'⟩ | ⟨m', h1', h2', h3'⟩
    ·exact hs.at_inj c c' k0 k0' β h1 h1' h2 h2' h3 h3'
    ·have h5 := hvat m' β (by omega) h3'
     have h6 := (hs.at_ok c k0 β h1 h2 h3).2.1
     omega
    ·have h5 := hvat m β (by omega) h3
     have h6 := (hs.at_ok c' k0' β h1' h2' h3').2.1
     omega
    ·have := hvinj m m' β (by omega) (by omega) h3 h3'
     rw [← h2, ← h2', this]
   ·intro β h
    rcases hS2 β h with h | h
    ·have := hs.S_lt β h; omega
    ·exact h.2
   ·intro β h
    rcases hS2 β h with h | h
    ·exact hs.S_src β h
    ·exact .inr (by omega)
   ·refine hs.below.trans ⟨hbel.os, hbel.tape, hbel.output, hbel.size, hbel.drawn, fun k hk hnl => hbel.block k (by omega) fun hL => ?_⟩
    obtain ⟨j, hj, hg⟩ := hnotL k hL
    rcases (hs.at_ok _ _ k (hlk j hj).1 (hlk j hj).2 hg).1.2 with h | h
    ·omega
    ·exact hnl h
  refine hK _ _ ⟨G2, key.put (some s) (some (res.ren (nu ls ns))) v (by intro t e; cases e; exact hn) ?_⟩
  rintro d ⟨⟩
  refine ⟨hres'.ren hvia (hren _ hnmR), fun b hb => ?_⟩
  obtain ⟨b0, h1, h2⟩ := IJ hb
  rw [h2]
  exact hdom b0 (hren _ hnmR b0 h1)
theorem Fq {f s : Nat} {xs : List Operand} {ds0 ds : List D} {lent : List (Bp × Bp)} {rv : List Bp} {res : D} {ts : Array TypeId} (ls ns : List Nat) (ch : List Bool) (hc : DI P f ds lent rv res) (hat : At st.env ops i X.n (.call ⟨.value (.func f), xs.toArray, ts⟩) s gs)
  (hf : Ay P f = true) (hl : xs.length = ds0.length) (hx : D1 st.env (Gk xs ds0)) (hds : ds0.map D.nrm = ds.map (D.ren (nu ls ns)))
  (hll : ls.length = lent.length) (hln : ls.Nodup) (hlb : Gb st.bx (Mc (nu ls ns) ls lent)) (hns : ns.length = rv.length) (hndl : Ix ns) (hnew : KC st.bx ns) (hch : Qf lent ch)
  (hlim : (yZ lent.length 1000 && yZ rv.length 1000) = true) (hre : (lent.all fun x => x.1.real && x.2.real) = true)
  (hnm : (Gu lent.length rv.length res.names && (lent.all fun x => Gu lent.length rv.length x.2.names) && rv.all fun x => Gu lent.length rv.length x.names) = true)
  (next : A7 P X ops dr Q r (i + 1) (B7.upd ⟨gs ++ Gk xs ds0, Mc (nu ls ns) ls lent, some s, some (res.ren (nu ls ns)), G6 (nu ls ns) ls lent ch (newB (nu ls ns) ns rv), ns⟩ st) ((i, ⟨gs ++ Gk xs ds0, Mc (nu ls ns) ls lent, some s, some (res.ren (nu ls ns)), G6 (nu ls ns) ls lent ch (newB (nu ls ns) ns rv), ns⟩) :: log)) : A7 P X ops dr Q (r + 1) i st log := by
 obtain ⟨o, ho, hop, hd, hn, hg, hgp⟩ := hat.out
 exact A7.step next ⟨Al.2 ⟨hgp, hx⟩, hlb, hnew⟩ (Rs ls ns ch hc hat hf hl hds hll hln hns hndl hch hlim hre hnm)
end run
end Go.Lift
namespace Go.Lift
open Go.RowKit
variable {P : Program} {X : Gy} {ops : Array Oper}
def Oh {α : Type} (xs : List α) (q : Nat) (ys : List α) : List α := xs.take q ++ ys ++ xs.drop (q + ys.length)
theorem Mi {α : Type} {xs ys : List α} {q : Nat} (h : q + ys.length ≤ xs.length) : (Oh xs q ys).length = xs.length := by
 unfold Oh; simp; omega
theorem Qp {α : Type} {xs ys : List α} {q : Nat} (h : q + ys.length ≤ xs.length) (i : Nat) : (Oh xs q ys)[i]? = if q ≤ i ∧ i < q + ys.length then ys[i - q]? else xs[i]? := by
 unfold Oh
 by_cases h1 : i < q
 ·rw [if_neg (by omega), List.append_assoc, yG (by simp; omega), zU h1]
 ·by_cases h2 : i < q + ys.length
  ·rw [if_pos (by omega), yG (by simp; omega), yD (by simp; omega)]
   congr 1; simp; omega
  ·rw [if_neg (by omega), yD (by simp; omega), yR]
   congr 1; simp; omega
theorem TN {α β : Type} (f : α → β) (xs ys : List α) (q : Nat) : Oh (xs.map f) q (ys.map f) = (Oh xs q ys).map f := by
 unfold Oh; simp
inductive Mv : D → Nat → Nat → List (List T) → Nat → Nat → Prop where
 | own (b e : Nat) (rows : List (List T)) : Mv (.e (.one (.own b))) b e rows 0 rows.length
 | view (b e : Nat) (rows : List (List T)) (lo len : Nat) (h : lo + len ≤ rows.length) : Mv (.e (.one (.view b e lo len))) b e rows lo len
inductive Ph : D → List (Nat × Bp) → Nat → List (List T) → Prop where
 | of {d : D} {rb : List (Nat × Bp)} {e : Nat} {rows : List (List T)} (h : Ux d rb e rows) : Ph d rb e rows
 | view (b e : Nat) (rows : List (List T)) (lo len : Nat) (h : lo + len ≤ rows.length) : Ph (.e (.one (.view b e lo len))) [(b, .vec e rows)] e ((rows.drop lo).take len)
theorem Q3 (q : Addr) : q.add 0 = q := by unfold Addr.add; simp
theorem P0 {G : Gh} {w : World} {b e : Nat} {rows : List (List T)} (h : Ee P w G b (.vec e rows)) : ∃ a cap, G.hd b = .slice a rows.length cap ∧ rows.length ≤ cap ∧
  (0 < cap → ∃ β arr el, a = some ⟨β, 0, none⟩ ∧ G.loc b = some β ∧ w.heap[β]? = some (.cells arr el (0, 0)) ∧ arr.size = cap * e ∧ DM w G.S arr e 0 rows) := by
 rcases h with ⟨a, h1, h2, _⟩ | ⟨β, cap, arr, el, h0, h1, h2, h3, h4, h5, h6⟩
 ·subst h2; exact ⟨a, 0, h1, yY _, fun h => by cases h⟩
 ·exact ⟨_, cap, h1, h3, fun _ => ⟨β, arr, el, rfl, h0, h2, h4, by rw [h4, zI]; exact zF e h3, h5, fun i row j t hi hj => by rw [zI]; exact h6 i row j t hi hj⟩⟩
section run
variable {dr : Bool} {Q : St → Prop} {r i : Nat} {st : St} {log : List (Nat × B7)} {o : Oper} {gs : List (Operand × D)}
theorem CE.dstV {G : Gh} {a : Act} {w : World} (hs : CE P X G st a w) {x : Operand} {d : D} {b e lo len : Nat} {rows : List (List T)} (hx : Lift.opd st.env x = some d) (h : Mv d b e rows lo len) (hb : st.bx b = some (.vec e rows)) :
  ∃ p cap', a.eval x = .slice p len cap' ∧ rows.length - lo ≤ cap' ∧ lo + len ≤ rows.length ∧
   (lo < rows.length → ∃ β cap arr el, G.loc b = some β ∧ G.hd b = .slice (some ⟨β, 0, none⟩) rows.length cap ∧ rows.length ≤ cap ∧ p = some ⟨β, lo * e, none⟩ ∧ w.heap[β]? = some (.cells arr el (0, 0)) ∧ arr.size = cap * e ∧ DM w G.S arr e 0 rows) := by
 obtain ⟨a0, cap, h1, h2, h3⟩ := P0 (hs.blk b _ hb)
 have hR := hs.opd hx
 cases h with
 | own =>
  obtain ⟨hR, _⟩ : Ef P w G (a.eval x) (.own b) := hR
  refine ⟨a0, cap, hR.trans h1, by omega, by omega, fun hlt => ?_⟩
  obtain ⟨β, arr, el, g1, g2, g3, g4, g5⟩ := h3 (by omega)
  subst g1
  exact ⟨β, cap, arr, el, g2, h1, h2, by simp, g3, g4, g5⟩
 | view _ _ _ _ _ h =>
  obtain ⟨a1, n1, cap1, p, k1, k2, k3, k4⟩ : Ef P w G (a.eval x) (.view b e lo len) := hR
  rw [h1] at k1
  cases k1
  refine ⟨p, cap - lo, k3, by omega, h, fun hlt => ?_⟩
  obtain ⟨β, arr, el, g1, g2, g3, g4, g5⟩ := h3 (by omega)
  subst g1
  refine ⟨β, cap, arr, el, g2, h1, h2, ?_, g3, g4, g5⟩
  rw [k4 (by omega)]
  simp [Addr.add_mk]
theorem CE.srcW {G : Gh} {a : Act} {w : World} (hs : CE P X G st a w) {x : Operand} {d : D} {rb : List (Nat × Bp)} {e : Nat} {rows : List (List T)} (hx : Lift.opd st.env x = some d) (h : Ph d rb e rows) (hb : Gb st.bx rb) :
  ∃ p cap, a.eval x = .slice p rows.length cap ∧ (rows = [] ∨ ∃ β off arr el fz, p = some ⟨β, off, none⟩ ∧ w.heap[β]? = some (.cells arr el fz) ∧ DM w G.S arr e off rows) := by
 cases h with
 | of h =>
  have hR := hs.opd hx
  cases h with
  | own b e rows =>
   obtain ⟨hR, _⟩ : Ef P w G (a.eval x) (.own b) := hR
   obtain ⟨a0, cap, h1, h2, h3⟩ := P0 (hs.blk b _ hb.1)
   refine ⟨a0, cap, hR.trans h1, ?_⟩
   cases rows with
   | nil => exact .inl rfl
   | cons y ys =>
    obtain ⟨β, arr, el, g1, g2, g3, g4, g5⟩ := h3 (by simp at h2; omega)
    exact .inr ⟨β, 0, arr, el, (0, 0), g1, g3, g5⟩
  | sl e rows hrow =>
   have hR : Cw w G.S (a.eval x) (.sl rows) := hR
   generalize a.eval x = v at hR
   cases hR with
   | nil a' cap => exact ⟨_, _, rfl, .inl rfl⟩
   | sl β off cap e' arr el' fz rows h1 h2 h3 h4 h5 h6 =>
    refine ⟨_, _, rfl, ?_⟩
    cases rows with
    | nil => exact .inl rfl
    | cons r0 rs =>
     have he : e' = e := by rw [← hrow 0 r0 rfl]; exact (h5 0 r0 rfl).symm
     subst he
     exact .inr ⟨β, off, arr, el', fz, rfl, h2, h4, h5, h6⟩
  | nil e =>
   have hR : Cw w G.S (a.eval x) .nil0 := hR
   generalize a.eval x = v at hR
   cases hR with
   | nil0 a' => exact ⟨_, _, rfl, .inl rfl⟩
 | view b _ rows lo len h =>
  obtain ⟨p, cap', h1, h2, h3, h4⟩ := hs.dstV hx (.view b e rows lo len h) hb.1
  have hlen : ((rows.drop lo).take len).length = len := by simp; omega
  refine ⟨p, cap', by rw [hlen]; exact h1, ?_⟩
  by_cases hz : len = 0
  ·exact .inl (by rw [hz, List.take_zero])
  ·obtain ⟨β, cap, arr, el, g1, g2, g3, g4, g5, g6, g7⟩ := h4 (by omega)
   refine .inr ⟨β, lo * e, arr, el, (0, 0), g4, g5, ?_, ?_, ?_⟩
   ·rw [hlen, g6, ← yO]; exact zF e (by omega)
   ·intro i row hi
    have := AB hi
    rw [hlen] at this
    rw [zU this, yR] at hi
    exact g7.2.1 _ row hi
   ·intro i row j t hi hj
    have := AB hi
    rw [hlen] at this
    rw [zU this, yR] at hi
    have := g7.2.2 _ row j t hi hj
    rwa [zI, yO] at this
theorem DM.take {w : World} {S : Nat → Prop} {arr : Array Value} {e off n : Nat} {rows : List (List T)} (h : DM w S arr e off rows) : DM w S arr e off (rows.take n) := by
 refine ⟨?_, ?_, ?_⟩
 ·have := h.1
  have h2 : (rows.take n).length * e ≤ rows.length * e := zF e (by simp; omega)
  omega
 ·intro i row hi
  have := AB hi
  simp at this
  rw [zU (by omega)] at hi
  exact h.2.1 i row hi
 ·intro i row j t hi hj
  have := AB hi
  simp at this
  rw [zU (by omega)] at hi
  exact h.2.2 i row j t hi hj
theorem NG {w : World} {S : Nat → Prop} {p : Option Addr} {len cap e n : Nat} {rows : List (List T)} (hn : n ≤ rows.length) (h : rows = [] ∨ ∃ β off arr el fz, p = some ⟨β, off, none⟩ ∧ w.heap[β]? = some (.cells arr el fz) ∧ DM w S arr e off rows) :
  ∃ news, (Builtin.firstCells e n (.slice p len cap)).run P w = .ok news w ∧ DM w S news e 0 (rows.take n) ∧ news.size = n * e := by
 rcases h with h | ⟨β, off, arr, el, fz, h1, h2, h3⟩
 ·subst h
  have : n = 0 := by simpa using hn
  subst this
  obtain ⟨news, k1, k2, k3⟩ := ED (P := P) (w := w) (a := p) (len := len) (cap := cap) (e := e) (S := S)
  exact ⟨news, k1 w rfl, by simpa using k2, by simpa using k3⟩
 ·subst h1
  have hl : (rows.take n).length = n := by simp; omega
  obtain ⟨news, k1, k2, k3⟩ := FN (P := P) (len := len) (cap := cap) h2 (h3.take (n := n))
  rw [hl] at k1 k3
  exact ⟨news, k1 w rfl, k2, k3⟩
theorem Sk {G : Gh} {w : World} {b e β cap q : Nat} {rows rows2 : List (List T)} {arr news : Array Value} {el : TypeId} (hlt : β < w.heap.size) (hnS : ¬ G.S β) (h0 : G.loc b = some β) (h1 : G.hd b = .slice (some ⟨β, 0, none⟩) rows.length cap) (h3 : rows.length ≤ cap) (h4 : arr.size = cap * e) (h5 : DM w G.S arr e 0 rows)
  (hn : DM w G.S news e 0 rows2) (hns : news.size = rows2.length * e) (hq : q + rows2.length ≤ rows.length) :
  Ee P (FH w β (.cells (EU arr (q * e) news.toList) el (0, 0))) G b (.vec e (Oh rows q rows2)) := by
 have hle : q * e + rows2.length * e ≤ cap * e := by rw [← yO]; exact zF e (by omega)
 have hS : ∀ γ, G.S γ → (FH w β (.cells (EU arr (q * e) news.toList) el (0, 0))).heap[γ]? = w.heap[γ]? := fun γ hγ => by
  rw [DT, if_neg (fun (h : γ = β ∧ β < w.heap.size) => hnS (h.1 ▸ hγ))]
 have hrl : ∀ (i : Nat) (row : List T), (Oh rows q rows2)[i]? = some row → row.length = e := by
  intro i row hi
  rw [Qp hq] at hi
  split at hi
  ·exact hn.2.1 _ row hi
  ·exact h5.2.1 _ row hi
 refine .inr ⟨β, cap, EU arr (q * e) news.toList, el, h0, by rw [Mi hq]; exact h1, by rw [DT, if_pos ⟨rfl, hlt⟩], by rw [Mi hq]; exact h3, by rw [Ga, h4], hrl, ?_⟩
 intro i row j t hi hj
 have hj' := AB hj
 have hre := hrl i row hi
 rw [Qp hq] at hi
 rw [EX _ _ _ _ (by simp; omega)]
 simp only [xG, hns]
 split at hi
 ·rename_i hin
  have hle2 : (i - q) * e + e ≤ rows2.length * e := by rw [← yH]; exact zF e (by omega)
  have hsp : i * e = q * e + (i - q) * e := by rw [← yO]; congr 1; omega
  rw [if_pos (by omega)]
  have := hn.2.2 _ row j t hi hj
  rw [zI] at this
  have h6 : (news.toList[i * e + j - q * e]?).getD undef = Au news ((i - q) * e + j) := by
   rw [show i * e + j - q * e = (i - q) * e + j from by omega]
   unfold Au; simp
  rw [h6]
  exact this.mono hS fun _ h => h
 ·rename_i hin
  rw [if_neg]
  ·have := h5.2.2 _ row j t hi hj
   rw [zI] at this
   exact this.mono hS fun _ h => h
  ·rintro ⟨k1, k2⟩
   by_cases hiq : i < q
   ·have : i * e + e ≤ q * e := by rw [← yH]; exact zF e hiq
    omega
   ·have : q * e + rows2.length * e ≤ i * e := by rw [← yO]; exact zF e (by omega)
    omega
theorem R0 {x : Operand} {t el s e l h b lo0 len : Nat} {lo hi : Option Operand} {rl rh : List (Operand × D)} {rows : List (List T)} {d : D} (hat : At st.env ops i X.n (.slice t x lo hi none) s gs)
  (hx : opd st.env x = some d) (hD : Mv d b e rows lo0 len) (hb : st.bx b = some (.vec e rows)) (ht : sliceB P t el = true) (he : Gl P el e = true) (hlo : Pn lo 0 l rl) (hhi : Pn hi len h rh) (h1 : D1 st.env rl) (h2 : D1 st.env rh) (hlh : l ≤ h) (hhl : lo0 + h ≤ rows.length)
  (next : A7 P X ops dr Q r (i + 1) (B7.upd ⟨gs ++ ((x, d) :: (rl ++ rh)), [(b, .vec e rows)], some s, some (.e (.one (.view b e (lo0 + l) (h - l)))), [], []⟩ st) ((i, ⟨gs ++ ((x, d) :: (rl ++ rh)), [(b, .vec e rows)], some s, some (.e (.one (.view b e (lo0 + l) (h - l)))), [], []⟩) :: log)) : A7 P X ops dr Q (r + 1) i st log := by
 obtain ⟨o, ho, hop, hd, hn, hg, hgp⟩ := hat.out
 refine A7.step next ⟨Al.2 ⟨hgp, hx, Al.2 ⟨h1, h2⟩⟩, ⟨hb, trivial⟩, trivial⟩ (LR.value ho hg rfl hd.symm (C1 hd hn) ?_)
 intro G st a w hs hpre
 obtain ⟨hx, h12⟩ := (Al.1 hpre.r).2
 obtain ⟨h1, h2⟩ := Al.1 h12
 have hb := hpre.b.1
 -- the header of the whole
 obtain ⟨a0, cap, k1, k2, k3⟩ := P0 (hs.blk b _ hb)
 have hv : ∃ p, a.eval x = .slice p len (cap - lo0) ∧ lo0 + len ≤ rows.length ∧ (lo0 < cap → p = a0.map fun q => q.add (lo0 * e)) := by
  have hR := hs.opd hx
  cases hD with
  | own =>
   obtain ⟨hR, _⟩ : Ef P w G (a.eval x) (.own b) := hR
   exact ⟨a0, hR.trans k1, by omega, fun _ => by cases a0 <;> simp [Q3]⟩
  | view _ _ _ _ _ h' =>
   obtain ⟨a1, n1, cap1, p, g1, g2, g3, g4⟩ : Ef P w G (a.eval x) (.view b e lo0 len) := hR
   rw [k1] at g1; cases g1
   exact ⟨p, g3, h', g4⟩
 obtain ⟨p, hv1, hv2, hv3⟩ := hv
 refine ⟨.slice (if cap - lo0 = l then p else p.map (·.add (l * e))) (h - l) (cap - lo0 - l), w, G, ?_, hs, ?_⟩
 ·simp only [execOp, hop]
  refine Ah (a := .slice (if cap - lo0 = l then p else p.map (·.add (l * e))) (h - l) (cap - lo0 - l)) (w1 := w) ?_ rfl
  rw [hv1]
  exact IK (a := a) hs ht he hlo hhi h1 h2 hlh (by omega)
 ·rintro d' ⟨⟩
  refine ⟨⟨a0, rows.length, cap, _, k1, by omega, by rw [show cap - lo0 - l = cap - (lo0 + l) from by omega], fun hlt => ?_⟩, fun b' hb' => ?_⟩
  ·rw [if_neg (by omega), hv3 (by omega)]
   obtain ⟨β, arr, el', g1, _⟩ := k3 (by omega)
   subst g1
   simp only [yS, Addr.add_mk, yO, zI]
  ·simp [D.names, E.names, C.names] at hb'
   subst hb'
   simp [BF, hb]
theorem Sx {t t2 el e : Nat} {w : World} {p p2 : Option Addr} {dl dc n2 c2 : Nat} {news : Array Value} {ty : TypeId} (ht : sliceB P t el = true) (he : Gl P el e = true) (hnew : (Builtin.firstCells e (yJ n2 dl) (.slice p2 n2 c2)).run P w = .ok news w) {w' : World}
  (hst : ∀ q, p = some q → (storeCells q news.toList).run P w = .ok () w') (hno : p = none → w' = w) : (Builtin.copy_ #[t, t2] ty #[.slice p dl dc, .slice p2 n2 c2]).run P w = .ok (goInt (yJ n2 dl)) w' := by
 unfold sliceB at ht
 split at ht
 ·rename_i e' hu
  have : e' = el := by simpa using ht
  subst this
  unfold Builtin.copy_
  refine Ah (AC hu w) ?_
  refine Ah (a := n2) (w1 := w) rfl ?_
  refine Ah (DV he w) ?_
  refine Ah hnew ?_
  cases p with
  | none => rw [hno rfl]; rfl
  | some q => exact Ah (hst q rfl) rfl
 ·cases ht
theorem UM {x y : Operand} {t t2 el s e b lo len : Nat} {d d2 : D} {rb2 : List (Nat × Bp)} {rows rows2 rows' : List (List T)} (hat : At st.env ops i X.n (.call ⟨.builtin .copy, #[x, y], #[t, t2]⟩) s gs)
  (hx : opd st.env x = some d) (hD : Mv d b e rows lo len) (hb : st.bx b = some (.vec e rows)) (hy : opd st.env y = some d2) (hS : Ph d2 rb2 e rows2) (hb2 : Gb st.bx rb2) (ht : sliceB P t el = true) (he : Gl P el e = true) (hr : Oh rows lo (rows2.take (yJ rows2.length len)) = rows')
  (next : A7 P X ops dr Q r (i + 1) (B7.upd ⟨gs ++ [(x, d), (y, d2)], (b, .vec e rows) :: rb2, some s, some (vD (goInt (yJ rows2.length len))), [(b, .vec e rows')], []⟩ st) ((i, ⟨gs ++ [(x, d), (y, d2)], (b, .vec e rows) :: rb2, some s, some (vD (goInt (yJ rows2.length len))), [(b, .vec e rows')], []⟩) :: log)) : A7 P X ops dr Q (r + 1) i st log := by
 obtain ⟨o, ho, hop, hd, hn, hg, hgp⟩ := hat.out
 refine A7.step next ⟨Al.2 ⟨hgp, hx, hy, trivial⟩, ⟨hb, hb2⟩, trivial⟩ (LR.value ho hg rfl hd.symm (C1 hd hn) ?_)
 intro G st a w hs hpre
 obtain ⟨hx, hy, _⟩ := (Al.1 hpre.r).2
 obtain ⟨hb, hb2⟩ := hpre.b
 subst hr
 obtain ⟨p, cap', h1, h2, h3, h4⟩ := hs.dstV hx hD hb
 obtain ⟨p2, cap2, k1, k2⟩ := hs.srcW hy hS hb2
 have hmin : yJ rows2.length len ≤ rows2.length := Nat.min_le_left _ _
 have hmin2 : yJ rows2.length len ≤ len := Nat.min_le_right _ _
 obtain ⟨news, n1, n2, n3⟩ := NG (P := P) (len := rows2.length) (cap := cap2) hmin k2
 have hl2 : (rows2.take (yJ rows2.length len)).length = yJ rows2.length len := by rw [xQ]; exact Nat.min_eq_left hmin
 have hrun : ∀ w', (∀ q, p = some q → (storeCells q news.toList).run P w = .ok () w') → (p = none → w' = w) → (execOp a.eval o).run P w = .ok (.value (goInt (yJ rows2.length len))) w' := fun w' g1 g2 => by
  simp only [execOp, hop]
  refine Gw fun cs => ?_
  simp only [xR, zZ, uG, builtin, h1, k1]
  exact Ah (Sx ht he n1 g1 g2) rfl
 have fin : ∀ d', some (vD (goInt (yJ rows2.length len))) = some d' → ∀ w' (G' : Gh), FT P w' G' (goInt (yJ rows2.length len)) d' ∧ ∀ c, c ∈ d'.names → (BF st.bx [(b, .vec e (Oh rows lo (rows2.take (yJ rows2.length len))))] c).isSome = true := fun d' hd' w' G' => by
  cases hd'; exact ⟨.val _ rfl, fun c hc => by cases hc⟩
 by_cases hlt : lo < rows.length
 ·obtain ⟨β, cap, arr, el', g1, g2, g3, g4, g5, g6, g7⟩ := h4 hlt
  subst g4
  have hat := hs.at_ok b _ β hb rfl (.inl g1)
  have hle : lo * e + yJ rows2.length len * e ≤ arr.size := by rw [g6, ← yO]; exact zF e (by omega)
  have hst := F3 (P := P) (β := β) (el := el') news.toList w (lo * e) 0 arr g5 (by simp [n3]; omega) (DM.ones n2 (by rw [n3, hl2]))
  rw [Nat.add_zero] at hst
  refine ⟨_, _, G, hrun _ (fun q hq => by cases hq; exact hst) (fun h => by cases h), ?_, fun d' hd' => fin d' hd' _ _⟩
  exact hs.setB (b := b) (k0 := .vec e rows) hb rfl rfl (.inl g1) (Sk hat.2.1 hat.2.2 g1 g2 g3 g6 g7 n2 (by rw [n3, hl2]) (by rw [hl2]; omega)) (fun c hc => by cases hc)
 ·have hz : yJ rows2.length len = 0 := by omega
  have hn0 : news.toList = [] := yP (by simp [n3, hz])
  have hsp : Oh rows lo (rows2.take (yJ rows2.length len)) = rows := by
   have : lo = rows.length := by omega
   rw [hz]; unfold Oh; simp [this]
  refine ⟨_, w, G, hrun w (fun q _ => by rw [hn0]; rfl) (fun _ => rfl), ?_, fun d' hd' => fin d' hd' _ _⟩
  have : (⟨st.env, BF st.bx [(b, .vec e (Oh rows lo (rows2.take (yJ rows2.length len))))]⟩ : St) = st := by
   refine St.ext (fun _ => rfl) fun c => ?_
   simp only [BF]
   split
   ·rename_i e1; rw [e1, hsp, hb]
   ·rfl
  rw [this]; exact hs
end run
end Go.Lift
namespace Go.Lift
open Go.RowKit
variable {P : Program} {X : Gy} {ops : Array Oper}
def RZ (a b : Int) : Int := if b < a then b else a
def Tw (b : ByteArray) (i : Int) : Option Int := if 0 ≤ i then (b[i.toNat]?).map fun x => (x.toNat : Int) else none
theorem Rd {β : Type} {b : ByteArray} {i : Int} {f : Int → Option β} {r : β} (h : (Tw b i).bind f = some r) : ∃ x : UInt8, 0 ≤ i ∧ b[i.toNat]? = some x ∧ f (x.toNat : Int) = some r := by
 obtain ⟨x, h1, h2⟩ := bind_some h
 unfold Tw at h1
 split at h1
 ·rename_i h0
  cases hx : b[i.toNat]? with
  | none => rw [hx] at h1; cases h1
  | some y => rw [hx] at h1; cases h1; exact ⟨y, h0, rfl, h2⟩
 ·cases h1
section run
variable {dr : Bool} {Q : St → Prop} {r i : Nat} {st : St} {log : List (Nat × B7)} {o : Oper} {gs : List (Operand × D)}
theorem Wd {x y : Operand} {t t2 s : Nat} {k k2 : IntKind} {a0 b0 : Int} (hat : At st.env ops i X.n (.call ⟨.builtin .min, #[x, y], #[t, t2]⟩) s gs)
  (hx : opd st.env x = some (vD (.int k a0))) (hy : opd st.env y = some (vD (.int k2 b0)))
  (next : A7 P X ops dr Q r (i + 1) (B7.upd ⟨gs ++ [(x, vD (.int k a0)), (y, vD (.int k2 b0))], [], some s, some (vD (.int k (RZ a0 b0))), [], []⟩ st) ((i, ⟨gs ++ [(x, vD (.int k a0)), (y, vD (.int k2 b0))], [], some s, some (vD (.int k (RZ a0 b0))), [], []⟩) :: log)) : A7 P X ops dr Q (r + 1) i st log := by
 obtain ⟨o, ho, hop, hd, hn, hg, hgp⟩ := hat.out
 refine A7.step next ⟨Al.2 ⟨hgp, hx, hy, trivial⟩, trivial, trivial⟩ (LR.value ho hg rfl hd.symm (C1 hd hn) ?_)
 intro G st a w hs hpre
 obtain ⟨hx, hy, _⟩ := (Al.1 hpre.r).2
 have h1 : a.eval x = .int k a0 := CW (hs.opd hx : Cw w G.S (a.eval x) (.val _))
 have h2 : a.eval y = .int k2 b0 := CW (hs.opd hy : Cw w G.S (a.eval y) (.val _))
 refine ⟨.int k (RZ a0 b0), w, G, ?_, hs, ?_⟩
 ·simp only [execOp, hop]
  refine Gw fun cs => ?_
  simp only [xR, zZ, uG, builtin, h1, h2]
  rfl
 ·rintro d ⟨⟩
  exact ⟨.val _ rfl, fun b hb => by cases hb⟩
theorem Pz {x : Operand} {s b k : Nat} (hat : At st.env ops i X.n (.nilCheck x) s gs) (hx : opd st.env x = some (.e (.one (.ptr b k))))
  (next : A7 P X ops dr Q r (i + 1) (B7.upd ⟨gs ++ [(x, .e (.one (.ptr b k)))], [], some s, some (.e (.one (.ptr b k))), [], []⟩ st) ((i, ⟨gs ++ [(x, .e (.one (.ptr b k)))], [], some s, some (.e (.one (.ptr b k))), [], []⟩) :: log)) : A7 P X ops dr Q (r + 1) i st log := by
 obtain ⟨o, ho, hop, hd, hn, hg, hgp⟩ := hat.out
 refine A7.step next ⟨Al.2 ⟨hgp, hx, trivial⟩, trivial, trivial⟩ (LR.value ho hg rfl hd.symm (C1 hd hn) ?_)
 intro G st a w hs hpre
 obtain ⟨hx, _⟩ := (Al.1 hpre.r).2
 obtain ⟨β, hβ, hv⟩ : Ef P w G (a.eval x) (.ptr b k) := hs.opd hx
 refine ⟨.pointer (some ⟨β, k, none⟩), w, G, ?_, hs, ?_⟩
 ·simp only [execOp, hop, hv]; rfl
 ·rintro d ⟨⟩
  exact ⟨⟨β, hβ, rfl⟩, fun b' hb' => hs.opd_live hx b' hb'⟩
def KQ (P : Program) (t : TypeId) : Bool := match P.underlying t with | some .string => true | _ => false
theorem SD {x y : Operand} {t s : Nat} {b : ByteArray} {k : IntKind} {n : Int} {c : UInt8} (hat : At st.env ops i X.n (.index t x y) s gs)
  (hx : opd st.env x = some (vD (.string b))) (hy : opd st.env y = some (vD (.int k n))) (ht : KQ P t = true) (h0 : 0 ≤ n) (hc : b[n.toNat]? = some c)
  (next : A7 P X ops dr Q r (i + 1) (B7.upd ⟨gs ++ [(x, vD (.string b)), (y, vD (.int k n))], [], some s, some (vD (.int .u8 (c.toNat : Int))), [], []⟩ st) ((i, ⟨gs ++ [(x, vD (.string b)), (y, vD (.int k n))], [], some s, some (vD (.int .u8 (c.toNat : Int))), [], []⟩) :: log)) : A7 P X ops dr Q (r + 1) i st log := by
 obtain ⟨o, ho, hop, hd, hn, hg, hgp⟩ := hat.out
 refine A7.step next ⟨Al.2 ⟨hgp, hx, hy, trivial⟩, trivial, trivial⟩ (LR.value ho hg rfl hd.symm (C1 hd hn) ?_)
 intro G st a w hs hpre
 obtain ⟨hx, hy, _⟩ := (Al.1 hpre.r).2
 have h1 : a.eval x = .string b := CW (hs.opd hx : Cw w G.S (a.eval x) (.val _))
 have h2 : a.eval y = .int k n := CW (hs.opd hy : Cw w G.S (a.eval y) (.val _))
 refine ⟨.int .u8 (c.toNat : Int), w, G, ?_, hs, ?_⟩
 ·simp only [execOp, hop, h1, h2]
  refine Ah (a := .int .u8 (c.toNat : Int)) (w1 := w) ?_ rfl
  unfold KQ at ht
  split at ht
  ·rename_i hu
   unfold Instr.index
   refine Ah (a := (k, n)) (w1 := w) rfl ?_
   refine Ah (AC hu w) ?_
   simp only [h0, if_true, hc]
   rfl
  ·cases ht
 ·rintro d ⟨⟩
  exact ⟨.val _ rfl, fun b hb => by cases hb⟩
end run
section maps
variable {K V : Type}
def Fw [BEq K] (k : K) : List (K × V) → Option V
 | [] => none
 | p :: r => if k == p.1 then some p.2 else Fw k r
def Iu [BEq K] (k : K) (v : V) : List (K × V) → List (K × V)
 | [] => [(k, v)]
 | p :: r => if k == p.1 then (k, v) :: r else p :: Iu k v r
def D2 (kv : K → Value) (vt : V → T) (m : List (K × V)) : List (Value × T) := m.map fun p => (kv p.1, vt p.2)
end maps
structure Or {K : Type} [BEq K] (P : Program) (t : TypeId) (kv : K → Value) : Prop where
 ty : ∃ kt el kd, P.underlying t = some (.map kt el) ∧ P.underlying kt = some kd ∧ (∀ a b : K, Instr.sameNow kd (kv a) (kv b) = some (a == b)) ∧ (∀ (e : Bool) (n : Nat) (v : K) (w : World), (Instr.checkKey e (n + 1) kt (kv v)).run P w = .ok () w)
 same : ∀ a b : K, (a == b) = true → Instr.sameBits 10000 (kv b) (kv a) = true
theorem II {K V : Type} [BEq K] {kd : TypeDesc} {kv : K → Value} (h : ∀ a b : K, Instr.sameNow kd (kv a) (kv b) = some (a == b)) (k : K) : ∀ (m : List (K × V)) (es : List MapEntry) (i : Nat), es.length = m.length → (∀ (j : Nat) (p : K × V), m[j]? = some p → ∃ e : MapEntry, es[j]? = some e ∧ e.key = kv p.1) →
  (Fw k m = none ∧ Instr.findNow kd (kv k) es i = some none) ∨ ∃ j p e, m[j]? = some p ∧ es[j]? = some e ∧ (k == p.1) = true ∧ Fw k m = some p.2 ∧ Instr.findNow kd (kv k) es i = some (some (i + j, e.val)) ∧ (∀ v, Iu k v m = m.set j (k, v))
 | [], [], i, _, _ => .inl ⟨rfl, rfl⟩
 | p :: m, e :: es, i, hl, hp => by
  obtain ⟨e0, h0, h1⟩ := hp 0 p rfl
  simp at h0; subst h0
  have h2 := h k p.1
  by_cases hk : (k == p.1) = true
  ·refine .inr ⟨0, p, e, rfl, rfl, hk, ?_, ?_, fun v => ?_⟩
   ·simp only [Fw, hk, if_true]
   ·simp only [Instr.findNow, h1, h2, hk]; rfl
   ·simp only [Iu, hk, if_true]; rfl
  ·have hk' : (k == p.1) = false := by simpa using hk
   rcases II h k m es (i + 1) (by simpa using hl) (fun j q hq => hp (j + 1) q (by simpa using hq)) with ⟨g1, g2⟩ | ⟨j, q, e', g1, g2, g3, g4, g5, g6⟩
   ·refine .inl ⟨?_, ?_⟩
    ·simp only [Fw, hk']; exact g1
    ·simp only [Instr.findNow, h1, h2, hk']; exact g2
   ·refine .inr ⟨j + 1, q, e', by simpa using g1, by simpa using g2, g3, ?_, ?_, fun v => ?_⟩
    ·simp only [Fw, hk']; exact g4
    ·simp only [Instr.findNow, h1, h2, hk']; rw [g5]; simp [y7, Nat.add_comm 1]
    ·simp only [Iu, hk']; rw [g6 v]; rfl
theorem Kt {K V : Type} [BEq K] (k : K) (v : V) : ∀ {m : List (K × V)}, Fw k m = none → Iu k v m = m ++ [(k, v)]
 | [], _ => rfl
 | p :: m, h => by
  simp only [Fw] at h
  split at h
  ·cases h
  ·rename_i hk
   simp only [Iu]; rw [if_neg hk, Kt k v h]; rfl
section run
variable {dr : Bool} {Q : St → Prop} {r i : Nat} {st : St} {log : List (Nat × B7)} {o : Oper} {gs : List (Operand × D)}
theorem Q0 {t s : Nat} (hat : At st.env ops i X.n (.makeMap t none) s gs) (hnew : st.bx s = none)
  (next : A7 P X ops dr Q r (i + 1) (B7.upd ⟨gs, [], some s, some (.e (.one (.mref s))), [(s, .mp [])], [s]⟩ st) ((i, ⟨gs, [], some s, some (.e (.one (.mref s))), [(s, .mp [])], [s]⟩) :: log)) : A7 P X ops dr Q (r + 1) i st log := by
 obtain ⟨o, ho, hop, hd, hn, hg, hgp⟩ := hat.out
 refine A7.step next ⟨hgp, trivial, hnew, trivial⟩ (LR.value (rs := []) ho hg (by simp) hd.symm (C1 hd hn) ?_)
 intro G st a w hs hpre
 have hnew := hpre.n.1
 have key := hs.newB (.map #[] 0) s (.mp []) undef (hs.nl hn) hnew
  ⟨w.heap.size, #[], 0, by simp [Gh.set], by rw [DO, if_pos rfl], rfl, fun i x h => by simp at h⟩ (fun c hc => by cases hc)
 refine ⟨.map (some w.heap.size), _, _, ?_, key, ?_⟩
 ·simp only [execOp, hop]
  exact Ah (a := .map (some w.heap.size)) (w1 := w.alloc (.map #[] 0)) rfl rfl
 ·rintro d ⟨⟩
  refine ⟨⟨w.heap.size, by simp [Gh.set], rfl⟩, fun b hb => ?_⟩
  simp [D.names, E.names, C.names] at hb
  subst hb; simp [BF]
theorem CE.mpAt {G : Gh} {a : Act} {w : World} (hs : CE P X G st a w) {x : Operand} {b : Nat} {es : List (Value × T)} (hx : Lift.opd st.env x = some (.e (.one (.mref b)))) (hb : st.bx b = some (.mp es)) :
  ∃ β arr clock, a.eval x = .map (some β) ∧ G.loc b = some β ∧ w.heap[β]? = some (.map arr clock) ∧ arr.size = es.length ∧ ∀ (i : Nat) (y : Value × T), es[i]? = some y → ∃ m : MapEntry, arr[i]? = some m ∧ m.key = y.1 ∧ Cw w G.S m.val y.2 := by
 obtain ⟨β, hβ, hv⟩ : Ef P w G (a.eval x) (.mref b) := hs.opd hx
 obtain ⟨β', arr, clock, h1, h2, h3, h4⟩ := hs.blk b _ hb
 rw [hβ] at h1; cases h1
 exact ⟨β, arr, clock, hv, hβ, h2, h3, h4⟩
theorem H9 {β : Nat} {arr : Array MapEntry} {clock : Nat} {w : World} (h : w.heap[β]? = some (.map arr clock)) : (getObj β).run P w = .ok (.map arr clock) w := by
 simp [getObj, Sem.run, h]
theorem Lz {β : Nat} {arr : Array MapEntry} {clock : Nat} {o : Obj} {w : World} (h : w.heap[β]? = some (.map arr clock)) : (setObj β o).run P w = .ok () (FH w β o) := by
 simp [setObj, Sem.run, h, FH]
theorem Hv {K _V : Type} [BEq K] {kt : TypeId} {kd : TypeDesc} {kv : K → Value} {k : K} {es : List MapEntry} {r : Option (Nat × Value)} {w : World} (hu : P.underlying kt = some kd) (h : Instr.findNow kd (kv k) es 0 = some r) : (Instr.findKey kt (kv k) es).run P w = .ok r w := by
 unfold Instr.findKey
 refine Ah (AC hu w) ?_
 rw [h]; rfl
inductive Qz (w : World) : Value → Array MapEntry → Prop where
 | nil : Qz w (.map none) #[]
 | here (β clock : Nat) (arr : Array MapEntry) (h : w.heap[β]? = some (.map arr clock)) : Qz w (.map (some β)) arr
theorem Pt {K V : Type} [BEq K] {t el : Nat} {c : Bool} {z x : Value} {kv : K → Value} {vt : V → T} {m : List (K × V)} {k : K} {dv v0 : V} {w : World} {S : Nat → Prop} {arr : Array MapEntry} (h3 : Qz w x arr) (h4 : arr.size = (D2 kv vt m).length)
  (h5 : ∀ (i : Nat) (y : Value × T), (D2 kv vt m)[i]? = some y → ∃ e : MapEntry, arr[i]? = some e ∧ e.key = y.1 ∧ Cw w S e.val y.2)
  (hk : Or P t kv) (hel : (match P.underlying t with | some (.map _ e) => e == el | _ => false) = true) (hz : Du P el = some z) (hzv : vt dv = .val z) (hz1 : F1 z = true) (hv0 : (Fw k m).getD dv = v0) :
  ∃ v, (Instr.lookup t x (kv k) c).run P w = .ok (if c then .tuple #[v, .bool (Fw k m).isSome] else v) w ∧ Cw w S v (vt v0) := by
 obtain ⟨kt, el', kd, u1, u2, u3, u4⟩ := hk.ty
 rw [u1] at hel
 have hel' : el' = el := by simpa using hel
 subst hel'
 have hes : ∀ (j : Nat) (p : K × V), m[j]? = some p → ∃ e : MapEntry, arr.toList[j]? = some e ∧ e.key = kv p.1 ∧ Cw w S e.val (vt p.2) := fun j p hp => by
  obtain ⟨e, e1, e2, e3⟩ := h5 j (kv p.1, vt p.2) (by unfold D2; rw [zG, hp]; rfl)
  exact ⟨e, by simpa using e1, e2, e3⟩
 rcases II (V := V) u3 k m arr.toList 0 (by simp [h4, D2]) (fun j p hp => by obtain ⟨e, e1, e2, _⟩ := hes j p hp; exact ⟨e, e1, e2⟩) with ⟨g1, g2⟩ | ⟨j, q, e, g1, g2, g3, g4, g5, _⟩
 ·refine ⟨z, ?_, ?_⟩
  ·rw [g1]
   unfold Instr.lookup
   refine Ah (AC u1 w) ?_
   cases h3
   case' here h3 => refine Ah (H9 h3) ?_
   all_goals refine Ah (a := _) (w1 := w) rfl ?_
   all_goals refine Ah (u4 _ _ _ _) ?_
   all_goals refine Ah (Hv (_V := V) u2 g2) ?_
   all_goals refine Ah (Fk hz w) ?_
   all_goals exact Ah (a := (z, false)) (w1 := w) rfl rfl
  ·rw [← hv0, g1, Option.getD_none, hzv]; exact .val _ hz1
 ·refine ⟨e.val, ?_, ?_⟩
  ·rw [g4]
   unfold Instr.lookup
   refine Ah (AC u1 w) ?_
   cases h3 with
   | nil => cases g2
   | here β clock _ h3 =>
    refine Ah (H9 h3) ?_
    refine Ah (a := arr) (w1 := w) rfl ?_
    refine Ah (u4 _ _ _ _) ?_
    refine Ah (Hv (_V := V) u2 g5) ?_
    exact Ah (a := (e.val, true)) (w1 := w) rfl rfl
  ·obtain ⟨e', e1, _, e3⟩ := hes j q g1
   rw [g2] at e1; cases e1
   rw [← hv0, g4]; exact e3
inductive WJ : D → List (Value × T) → List (Nat × Bp) → Prop where
 | ref (b : Nat) (es : List (Value × T)) : WJ (.e (.one (.mref b))) es [(b, .mp es)]
 | tree (es : List (Value × T)) : WJ (one (.mp es)) es []
theorem CE.mpAtD {G : Gh} {a : Act} {w : World} (hs : CE P X G st a w) {x : Operand} {d : D} {es : List (Value × T)} {bs : List (Nat × Bp)} (hm : WJ d es bs) (hx : Lift.opd st.env x = some d) (hb : Gb st.bx bs) :
  ∃ arr, Qz w (a.eval x) arr ∧ arr.size = es.length ∧ ∀ (i : Nat) (y : Value × T), es[i]? = some y → ∃ m : MapEntry, arr[i]? = some m ∧ m.key = y.1 ∧ Cw w G.S m.val y.2 := by
 cases hm with
 | ref b =>
  obtain ⟨β, arr, clock, h1, h2, h3, h4, h5⟩ := hs.mpAt hx hb.1
  exact ⟨arr, by rw [h1]; exact .here β clock arr h3, h4, h5⟩
 | tree =>
  have h : Cw w G.S (a.eval x) (.mp es) := hs.opd hx
  generalize a.eval x = v at h
  cases h with
  | mp β clock arr _ h1 h2 h3 h4 h5 =>
   refine ⟨arr, .here β clock arr h2, h3, fun i y hy => ?_⟩
   have hlt : i < arr.size := by rw [h3]; exact AB hy
   exact ⟨arr[i], by simp [hlt], h4 i y _ hy (by simp [hlt]), h5 i y _ hy (by simp [hlt])⟩
  | mp0 => exact ⟨#[], .nil, rfl, fun i y hy => by simp at hy⟩
theorem Q5 {K V : Type} [BEq K] {t s el : Nat} {x y : Operand} {c : Bool} {z : Value} {kv : K → Value} {vt : V → T} {m : List (K × V)} {k : K} {dv v0 : V} {dx : D} {bs : List (Nat × Bp)} (hmd : WJ dx (D2 kv vt m) bs) (hat : At st.env ops i X.n (.lookup t x y c) s gs)
  (hx : opd st.env x = some dx) (hy : opd st.env y = some (vD (kv k))) (hb : Gb st.bx bs) (hk : Or P t kv) (hel : (match P.underlying t with | some (.map _ e) => e == el | _ => false) = true) (hz : Du P el = some z) (hzv : vt dv = .val z) (hz1 : F1 z = true) (hv0 : (Fw k m).getD dv = v0)
  (next : A7 P X ops dr Q r (i + 1) (B7.upd ⟨gs ++ [(x, dx), (y, vD (kv k))], bs, some s, some (if c then .tup [.one (.pure (vt v0)), .one (.pure (.val (.bool (Fw k m).isSome)))] else one (vt v0)), [], []⟩ st) ((i, ⟨gs ++ [(x, dx), (y, vD (kv k))], bs, some s, some (if c then .tup [.one (.pure (vt v0)), .one (.pure (.val (.bool (Fw k m).isSome)))] else one (vt v0)), [], []⟩) :: log)) : A7 P X ops dr Q (r + 1) i st log := by
 obtain ⟨o, ho, hop, hd, hn, hg, hgp⟩ := hat.out
 refine A7.step next ⟨Al.2 ⟨hgp, hx, hy, trivial⟩, hb, trivial⟩ (LR.value ho hg rfl hd.symm (C1 hd hn) ?_)
 intro G st a w hs hpre
 obtain ⟨hx, hy, _⟩ := (Al.1 hpre.r).2
 obtain ⟨arr, h3, h4, h5⟩ := hs.mpAtD hmd hx hpre.b
 have hY : a.eval y = kv k := CW (hs.opd hy : Cw w G.S (a.eval y) (.val _))
 obtain ⟨v, hv1, hv2⟩ := Pt (c := c) h3 h4 h5 hk hel hz hzv hz1 hv0
 refine ⟨(if c then .tuple #[v, .bool (Fw k m).isSome] else v), w, G, ?_, hs, ?_⟩
 ·simp only [execOp, hop, hY]
  exact Ah hv1 rfl
 ·rintro d hd'
  cases c with
  | false => cases hd'; exact ⟨hv2, fun b hb => by cases hb⟩
  | true =>
   cases hd'
   refine ⟨⟨_, rfl, rfl, fun j x hj => ?_⟩, fun b hb => by simp [D.names, HA, E.names, C.names] at hb⟩
   match j, hj with
   | 0, hj => cases hj; exact hv2
   | 1, hj => cases hj; exact .val _ rfl
theorem Su {K V : Type} [BEq K] {t s b el : Nat} {x y : Operand} {c : Bool} {z : Value} {kv : K → Value} {vt : V → T} {m : List (K × V)} {k : K} {dv v0 : V} (hat : At st.env ops i X.n (.lookup t x y c) s gs)
  (hx : opd st.env x = some (.e (.one (.mref b)))) (hy : opd st.env y = some (vD (kv k))) (hb : st.bx b = some (.mp (D2 kv vt m))) (hk : Or P t kv) (hel : (match P.underlying t with | some (.map _ e) => e == el | _ => false) = true) (hz : Du P el = some z) (hzv : vt dv = .val z) (hz1 : F1 z = true) (hv0 : (Fw k m).getD dv = v0)
  (next : A7 P X ops dr Q r (i + 1) (B7.upd ⟨gs ++ [(x, .e (.one (.mref b))), (y, vD (kv k))], [(b, .mp (D2 kv vt m))], some s, some (if c then .tup [.one (.pure (vt v0)), .one (.pure (.val (.bool (Fw k m).isSome)))] else one (vt v0)), [], []⟩ st) ((i, ⟨gs ++ [(x, .e (.one (.mref b))), (y, vD (kv k))], [(b, .mp (D2 kv vt m))], some s, some (if c then .tup [.one (.pure (vt v0)), .one (.pure (.val (.bool (Fw k m).isSome)))] else one (vt v0)), [], []⟩) :: log)) : A7 P X ops dr Q (r + 1) i st log :=
 Q5 (.ref b _) hat hx hy ⟨hb, trivial⟩ hk hel hz hzv hz1 hv0 next
theorem SA {K V : Type} [BEq K] {t b : Nat} {x y u : Operand} {kv : K → Value} {vt : V → T} {m m' : List (K × V)} {k : K} {v : V} {op : Op} (hat : QX ops i = some op) (hop' : op = .mapUpdate t x y u ∨ op = .insert t x y u)
  (hx : opd st.env x = some (.e (.one (.mref b)))) (hy : opd st.env y = some (vD (kv k))) (hu : opd st.env u = some (one (vt v))) (hb : st.bx b = some (.mp (D2 kv vt m))) (hk : Or P t kv) (hm : Iu k v m = m')
  (next : A7 P X ops dr Q r (i + 1) (B7.upd ⟨[(x, .e (.one (.mref b))), (y, vD (kv k)), (u, one (vt v))], [(b, .mp (D2 kv vt m))], none, none, [(b, .mp (D2 kv vt m'))], []⟩ st) ((i, ⟨[(x, .e (.one (.mref b))), (y, vD (kv k)), (u, one (vt v))], [(b, .mp (D2 kv vt m))], none, none, [(b, .mp (D2 kv vt m'))], []⟩) :: log)) : A7 P X ops dr Q (r + 1) i st log := by
 obtain ⟨o, ho, hop, hd, hgn⟩ := N1 hat
 have hg : SN ops o [] := .none hgn
 refine A7.step next ⟨⟨hx, hy, hu, trivial⟩, ⟨hb, trivial⟩, trivial⟩ (LR.skip (rs := [(x, .e (.one (.mref b))), (y, vD (kv k)), (u, one (vt v))]) ho hg rfl hd rfl ?_)
 intro G st a w hs hpre
 obtain ⟨hx, hy, hu, _⟩ := hpre.r
 have hb := hpre.b.1
 subst hm
 obtain ⟨β, arr, clock, h1, h2, h3, h4, h5⟩ := hs.mpAt hx hb
 have hY : a.eval y = kv k := CW (hs.opd hy : Cw w G.S (a.eval y) (.val _))
 have hU : Cw w G.S (a.eval u) (vt v) := hs.opd hu
 obtain ⟨kt, el', kd, u1, u2, u3, u4⟩ := hk.ty
 have hes : ∀ (j : Nat) (p : K × V), m[j]? = some p → ∃ e : MapEntry, arr.toList[j]? = some e ∧ e.key = kv p.1 ∧ Cw w G.S e.val (vt p.2) := fun j p hp => by
  obtain ⟨e, e1, e2, e3⟩ := h5 j (kv p.1, vt p.2) (by unfold D2; rw [zG, hp]; rfl)
  exact ⟨e, by simpa using e1, e2, e3⟩
 have hat := hs.at_ok b _ β hb rfl (.inl h2)
 have hml : arr.size = m.length := by rw [h4]; simp [D2]
 have fin : ∀ arr' clock', arr'.size = (Iu k v m).length → (∀ (j : Nat) (p : K × V), (Iu k v m)[j]? = some p → ∃ e : MapEntry, arr'[j]? = some e ∧ e.key = kv p.1 ∧ Cw w G.S e.val (vt p.2)) →
   CE P X G ⟨st.env, BF st.bx [(b, .mp (D2 kv vt (Iu k v m)))]⟩ a (FH w β (.map arr' clock')) := by
  intro arr' clock' k1 k2
  have hS : ∀ γ, G.S γ → (FH w β (.map arr' clock')).heap[γ]? = w.heap[γ]? := fun γ hγ => by
   rw [DT, if_neg (fun (h : γ = β ∧ β < w.heap.size) => hat.2.2 (h.1 ▸ hγ))]
  refine hs.setB (b := b) (k0 := .mp (D2 kv vt m)) hb rfl rfl (.inl h2) ⟨β, arr', clock', h2, by rw [DT, if_pos ⟨rfl, hat.2.1⟩], by rw [k1]; simp [D2], fun j y hy => ?_⟩ (fun c hc => by cases hc)
  unfold D2 at hy
  rw [zG] at hy
  cases hp : (Iu k v m)[j]? with
  | none => rw [hp] at hy; cases hy
  | some p =>
   rw [hp] at hy; cases hy
   obtain ⟨e, e1, e2, e3⟩ := k2 j p hp
   exact ⟨e, e1, e2, e3.mono hS fun _ h => h⟩
 have hrun : ∀ w', (Instr.mapUpdate t (.map (some β)) (kv k) (a.eval u)).run P w = .ok () w' → (execOp a.eval o).run P w = .ok .skip w' := fun w' h => by
  rcases hop' with e | e
  ·simp only [execOp, hop, e, h1, hY]; exact Ah h rfl
  ·simp only [execOp, hop, e, h1, hY]; exact Ah h rfl
 rcases II (V := V) u3 k m arr.toList 0 (by simp [hml]) (fun j p hp => by obtain ⟨e, e1, e2, _⟩ := hes j p hp; exact ⟨e, e1, e2⟩) with ⟨g1, g2⟩ | ⟨j, q, e, g1, g2, g3, g4, g5, g6⟩
 ·refine ⟨_, G, hrun _ ?_, fin (arr.push { key := kv k, val := a.eval u, born := clock }) (clock + 1) ?_ ?_⟩
  ·unfold Instr.mapUpdate
   refine Ah (AC u1 w) ?_
   refine Ah (H9 h3) ?_
   refine Ah (u4 _ _ _ _) ?_
   refine Ah (Hv (_V := V) u2 g2) ?_
   exact Lz h3
  ·rw [Kt k v g1]; simp [hml]
  ·intro j p hp
   rw [Kt k v g1] at hp
   by_cases hj : j < m.length
   ·rw [yG hj] at hp
    obtain ⟨e, e1, e2, e3⟩ := hes j p hp
    refine ⟨e, ?_, e2, e3⟩
    rw [Array.getElem?_push, if_neg (by omega)]
    simpa using e1
   ·rw [yD (by omega)] at hp
    have hj0 : j - m.length = 0 := by have := AB hp; simp at this; omega
    rw [hj0] at hp; cases hp
    exact ⟨{ key := kv k, val := a.eval u, born := clock }, by rw [Array.getElem?_push, if_pos (by omega)], rfl, hU⟩
 ·have hjm := AB g1
  have hje : arr[j]? = some e := by simpa using g2
  have hek : e.key = kv q.1 := by obtain ⟨e', e1, e2, _⟩ := hes j q g1; rw [g2] at e1; cases e1; exact e2
  refine ⟨_, G, hrun _ ?_, fin (arr.modify j fun e => { e with key := kv k, val := a.eval u }) clock ?_ ?_⟩
  ·unfold Instr.mapUpdate
   refine Ah (AC u1 w) ?_
   refine Ah (H9 h3) ?_
   refine Ah (u4 _ _ _ _) ?_
   refine Ah (Hv (_V := V) u2 g5) ?_
   simp only [zI]
   refine Ah (a := kv k) (w1 := w) ?_ (Lz h3)
   rw [hje]
   simp only [yS, yA]
   unfold Instr.keyThatStays
   rw [hek, hk.same k q.1 g3]; rfl
  ·rw [g6 v]; simp [hml]
  ·intro j' p hp
   rw [g6 v] at hp
   rw [Array.getElem?_modify]
   rcases Lp hp with ⟨rfl, rfl⟩ | ⟨hne, hp⟩
   ·rw [if_pos rfl, hje]
    exact ⟨_, rfl, rfl, hU⟩
   ·rw [if_neg (fun h => hne h.symm)]
    obtain ⟨e', e1, e2, e3⟩ := hes j' p hp
    exact ⟨e', by simpa using e1, e2, e3⟩
end run
end Go.Lift
namespace Go.Lift
open Go.RowKit
variable {P : Program} {X : Gy} {ops : Array Oper}
section run
variable {dr : Bool} {Q : St → Prop} {r i : Nat} {st : St} {log : List (Nat × B7)} {o : Oper} {gs : List (Operand × D)}
def XE : Ow → Bool
 | .s => true
 | _ => false
end run
def Si (e : Nat) (cols : List Ow) (rows : List (List T)) : Bp := if cols.all XE then .vec e rows else .dvec e cols rows
section run
variable {dr : Bool} {Q : St → Prop} {r i : Nat} {st : St} {log : List (Nat × B7)} {o : Oper} {gs : List (Operand × D)}
end run
end Go.Lift
namespace Go.Lift
open Go.RowKit
variable {P : Program} {X : Gy} {ops : Array Oper}
section run
variable {dr : Bool} {Q : St → Prop} {r i : Nat} {st : St} {log : List (Nat × B7)} {o : Oper} {gs : List (Operand × D)}
structure T3 (w : World) (S : Nat → Prop) (e : Nat) (cols : List Ow) (rows : List (List T)) (Rf : Nat → Nat → Nat → Prop) (f : Nat → Value) : Prop where
 len : ∀ (i : Nat) (row : List T), rows[i]? = some row → row.length = e
 cell : ∀ (i : Nat) (row : List T) (j : Nat) (t : T), rows[i]? = some row → row[j]? = some t → PT w S (cols.getD j .s) (Rf i j) (f (i * e + j)) t
 dis : ∀ i j i' j' γ, Rf i j γ → Rf i' j' γ → i = i' ∧ j = j'
theorem T3.ones {w : World} {S : Nat → Prop} {e : Nat} {cols : List Ow} {rows : List (List T)} {Rf : Nat → Nat → Nat → Prop} {arr : Array Value} (h : T3 w S e cols rows Rf (Au arr)) (hs : arr.size = rows.length * e) : ∀ u, u ∈ arr.toList → F1 u = true := by
 intro u hu
 obtain ⟨k, hk⟩ := zO.1 hu
 have hk' : arr[k]? = some u := by simpa using hk
 have hlt : k < arr.size := by
  rcases yB k arr.size with h' | h'
  ·exact h'
  ·rw [yE h'] at hk'; cases hk'
 rcases Nat.eq_zero_or_pos e with e0 | e0
 ·rw [e0, Nat.mul_zero] at hs; omega
 have h1 : k / e < rows.length := (Nat.div_lt_iff_lt_mul e0).2 (by omega)
 have h2 : k % e < e := Nat.mod_lt _ e0
 have hrow : rows[k / e]? = some rows[k / e] := by simp [h1]
 have hlen := h.len _ _ hrow
 have hcell : (rows[k / e])[k % e]? = some ((rows[k / e])[k % e]'(by omega)) := by simp [show k % e < rows[k / e].length from by omega]
 have := (h.cell _ _ _ _ hrow hcell).one
 rw [show k / e * e + k % e = k from by rw [Nat.mul_comm]; exact Nat.div_add_mod k e] at this
 simpa [Au, hk'] using this
end run
end Go.Lift
namespace Go.Lift
open Go.RowKit
variable {P : Program} {X : Gy} {ops : Array Oper}
theorem Md {α : Type} (f : α → List T) (b e : Nat) (xs : List α) : Mv (.e (.one (.own b))) b e (xs.map f) 0 xs.length := by
 have := Mv.own b e (xs.map f)
 rwa [zY] at this
theorem QV {α : Type} (f : α → List T) (b e lo len : Nat) (xs : List α) (h : lo + len ≤ xs.length) : Mv (.e (.one (.view b e lo len))) b e (xs.map f) lo len := .view b e _ lo len (by simpa using h)
theorem Q4 {α : Type} (f : α → List T) (b e lo len : Nat) (xs : List α) (h : lo + len ≤ xs.length) : Ph (.e (.one (.view b e lo len))) [(b, .vec e (xs.map f))] e (((xs.drop lo).take len).map f) := by
 have := Ph.view b e (xs.map f) lo len (by simpa using h)
 rwa [← List.map_drop, ← List.map_take] at this
theorem TK {α : Type} (f : α → List T) (e : Nat) (xs : List α) (h : ∀ x, (f x).length = e) : Ph (one (.sl (xs.map f))) [] e (xs.map f) := .of (.sl _ _ (HO h xs))
section run
variable {dr : Bool} {Q : St → Prop} {r i : Nat} {st : St} {log : List (Nat × B7)} {o : Oper} {gs : List (Operand × D)}
theorem OO {α : Type} (f : α → List T) (xs : List α) {x : Operand} {t el s e l h b lo0 len lo1 len1 : Nat} {lo hi : Option Operand} {rl rh : List (Operand × D)} {d : D} (hat : At st.env ops i X.n (.slice t x lo hi none) s gs)
  (hx : opd st.env x = some d) (hD : Mv d b e (xs.map f) lo0 len) (hb : st.bx b = some (.vec e (xs.map f))) (ht : sliceB P t el = true) (he : Gl P el e = true) (hlo : Pn lo 0 l rl) (hhi : Pn hi len h rh) (h1 : D1 st.env rl) (h2 : D1 st.env rh) (hlh : l ≤ h) (hhl : lo0 + h ≤ xs.length) (e1 : lo0 + l = lo1) (e2 : h - l = len1)
  (next : A7 P X ops dr Q r (i + 1) (B7.upd ⟨gs ++ ((x, d) :: (rl ++ rh)), [(b, .vec e (xs.map f))], some s, some (.e (.one (.view b e lo1 len1))), [], []⟩ st) ((i, ⟨gs ++ ((x, d) :: (rl ++ rh)), [(b, .vec e (xs.map f))], some s, some (.e (.one (.view b e lo1 len1))), [], []⟩) :: log)) : A7 P X ops dr Q (r + 1) i st log := by
 subst e1; subst e2
 exact R0 hat hx hD hb ht he hlo hhi h1 h2 hlh (by simpa using hhl) next
theorem P8 {α : Type} (f : α → List T) (xs ys : List α) {x y : Operand} {t t2 el s e b lo len : Nat} {d d2 : D} {rb2 : List (Nat × Bp)} (hat : At st.env ops i X.n (.call ⟨.builtin .copy, #[x, y], #[t, t2]⟩) s gs)
  (hx : opd st.env x = some d) (hD : Mv d b e (xs.map f) lo len) (hb : st.bx b = some (.vec e (xs.map f))) (hy : opd st.env y = some d2) (hS : Ph d2 rb2 e (ys.map f)) (hb2 : Gb st.bx rb2) (ht : sliceB P t el = true) (he : Gl P el e = true)
  (next : A7 P X ops dr Q r (i + 1) (B7.upd ⟨gs ++ [(x, d), (y, d2)], (b, .vec e (xs.map f)) :: rb2, some s, some (vD (.int .i64 ((yJ ys.length len : Nat) : Int))), [(b, .vec e ((Oh xs lo (ys.take (yJ ys.length len))).map f))], []⟩ st) ((i, ⟨gs ++ [(x, d), (y, d2)], (b, .vec e (xs.map f)) :: rb2, some s, some (vD (.int .i64 ((yJ ys.length len : Nat) : Int))), [(b, .vec e ((Oh xs lo (ys.take (yJ ys.length len))).map f))], []⟩) :: log)) : A7 P X ops dr Q (r + 1) i st log := by
 have hl : (ys.map f).length = ys.length := zY _
 refine UM hat hx hD hb hy hS hb2 ht he (rows' := (Oh xs lo (ys.take (yJ ys.length len))).map f) ?_ ?_
 ·rw [hl, ← List.map_take, TN]
 ·rw [hl]; exact next
end run
theorem T5 {c : Code} {Q : Exit → St → Prop} {st : St} (h : W P X c (fun e st => ∃ st', Fb P X st st' ∧ Q e st') st) : W P X c Q st := by
 intro a w hs
 refine wp_mono (h a w hs) ?_
 rintro e a' w' ⟨st', ⟨st2, h1, h2⟩, h3⟩
 exact ⟨st2, h2, h1 a' w' h3⟩
def Qq (f : Nat → Nat) (env : Nat → Option D) : List (Nat × D) → Prop
 | [] => True
 | (s, d) :: ps => env s = some (d.ren f) ∧ Qq f env ps
def Qj (f : Nat → Nat) (bx : Nat → Option Bp) : List (Nat × Bp) → Prop
 | [] => True
 | (b, k) :: ps => bx (f b) = some (k.ren f) ∧ Qj f bx ps
def Ea : List (Nat × Bp) → List Nat
 | [] => []
 | (b, _) :: ps => b :: Ea ps
def KE (f : Nat → Nat) : List Nat → Bool
 | [] => true
 | b :: bs => (if BI b then f b == b else !BI (f b)) && KE f bs
def Wr (b : Nat) : List Nat → Bool
 | [] => false
 | c :: cs => c == b || Wr b cs
def Na (ns : List Nat) : List (Nat × D) → Bool
 | [] => true
 | (_, d) :: ps => (d.names.all fun b => Wr b ns) && Na ns ps
def MY (ns : List Nat) : List (Nat × Bp) → Bool
 | [] => true
 | (_, d) :: ps => (d.names.all fun b => Wr b ns) && MY ns ps
theorem O3 {f : Nat → Nat} {env : Nat → Option D} : ∀ {el : List (Nat × D)}, Qq f env el → Tj f env el
 | [], _ => trivial
 | (_, _) :: _, h => ⟨h.1, O3 h.2⟩
theorem Pa {f : Nat → Nat} {bx : Nat → Option Bp} : ∀ {bl : List (Nat × Bp)}, Qj f bx bl → Tb f bx bl
 | [], _ => trivial
 | (_, _) :: _, h => ⟨h.1, Pa h.2⟩
theorem Ng : ∀ bl : List (Nat × Bp), Ea bl = bl.map (·.1)
 | [] => rfl
 | (b, k) :: ps => by simp [Ea, Ng ps]
theorem Nh {f : Nat → Nat} : ∀ bl : List (Nat × Bp), KE f (Ea bl) = bl.all fun p => if BI p.1 then f p.1 == p.1 else !BI (f p.1)
 | [] => rfl
 | (b, k) :: ps => by simp only [Ea, KE, yK, Nh ps]
theorem P2 {b : Nat} : ∀ bl : List (Nat × Bp), Wr b (Ea bl) = bl.any fun q => q.1 == b
 | [] => rfl
 | (c, k) :: ps => by simp only [Ea, Wr, xJ, P2 ps]
theorem OI (bl : List (Nat × Bp)) : ∀ el : List (Nat × D), Na (Ea bl) el = el.all fun p => p.2.names.all fun b => bl.any fun q => q.1 == b
 | [] => rfl
 | (s, d) :: ps => by simp only [Na, yK, OI bl ps, P2]
theorem OV (bl : List (Nat × Bp)) : ∀ el : List (Nat × Bp), MY (Ea bl) el = el.all fun p => p.2.names.all fun b => bl.any fun q => q.1 == b
 | [] => rfl
 | (s, d) :: ps => by simp only [MY, yK, OV bl ps, P2]
theorem SC {st : St} (f : Nat → Nat) (el : List (Nat × D)) (bl : List (Nat × Bp)) (he : Qq f st.env el) (hb : Qj f st.bx bl) (hi : (G9 ((Ea bl).map f) && KE f (Ea bl)) = true) (hs : (Na (Ea bl) el && MY (Ea bl) bl) = true) : Fb P X st (mk el bl) := by
 refine Tr f el bl (O3 he) (Pa hb) ?_ ?_
 ·rw [Nh, Ng] at hi; exact hi
 ·rw [OI, OV] at hs; exact hs
theorem QY {dr : Bool} {Q : St → Prop} {r i : Nat} {st : St} {log : List (Nat × B7)} {gs : List (Operand × D)} {x y : Operand} {t s : Nat} {b : ByteArray} {k : IntKind} {n v : Int} (hat : At st.env ops i X.n (.index t x y) s gs)
  (hx : opd st.env x = some (vD (.string b))) (hy : opd st.env y = some (vD (.int k n))) (ht : KQ P t = true) (hv : Tw b n = some v)
  (next : A7 P X ops dr Q r (i + 1) (B7.upd ⟨gs ++ [(x, vD (.string b)), (y, vD (.int k n))], [], some s, some (vD (.int .u8 v)), [], []⟩ st) ((i, ⟨gs ++ [(x, vD (.string b)), (y, vD (.int k n))], [], some s, some (vD (.int .u8 v)), [], []⟩) :: log)) : A7 P X ops dr Q (r + 1) i st log := by
 obtain ⟨c, h0, hc, e⟩ := Rd (f := some) (r := v) (by rw [hv]; rfl)
 cases e
 exact SD hat hx hy ht h0 hc next
theorem Nj {t kt el : TypeId} {k : IntKind} (h1 : P.underlying t = some (.map kt el)) (h2 : P.underlying kt = some (.int k)) : Or P t (Value.int k) where
 ty := ⟨kt, el, .int k, h1, h2, fun a b => by simp [Instr.sameNow], fun e n v w => by
  unfold Instr.checkKey
  refine Ah (AC h2 w) ?_
  rfl⟩
 same := fun a b h => by
  show (k == k && b == a) = true
  rw [beq_iff_eq] at h; subst h; simp
end Go.Lift
namespace Go.Lift
open Go.RowKit
variable {P : Program} {X : Gy} {ops : Array Oper}
def hd (env : Nat → Option D) (ops : Array Oper) (i n : Nat) : Option (Op × Nat × List (Operand × D)) := match Xn ops i n with
 | some (op, s) => some (op, s, [])
 | none => match WN ops i n with
  | some (op, s, t, want) => (match env t, want with
   | some (.e (.one (.pure (.val (.bool true))))), true => some (op, s, [(.tmp t, bD true)])
   | some (.e (.one (.pure (.val (.bool false))))), false => some (op, s, [(.tmp t, bD false)])
   | _, _ => none)
  | none => none
theorem CM {env : Nat → Option D} {n i s : Nat} {op : Op} {gs : List (Operand × D)} (h : hd env ops i n = some (op, s, gs)) : At env ops i n op s gs := by
 unfold hd at h
 split at h
 ·rename_i e; cases h; exact .p e
 ·split at h
  ·rename_i e
   split at h
   ·rename_i e2; cases h; exact .g e e2
   ·rename_i e2; cases h; exact .g e e2
   ·cases h
  ·cases h
theorem t2 {α β : Type} {a c : α} {b d : β} (h : (a, b) = (c, d)) : a = c ∧ b = d := Prod.mk.inj h
abbrev Nx (P : Program) (X : Gy) (ops : Array Oper) (dr : Bool) (Q : St → Prop) (r i : Nat) (st : St) (log : List (Nat × B7)) (l : B7) : Prop := A7 P X ops dr Q r (i + 1) (B7.upd l st) ((i, l) :: log)
theorem sj {α : Type} {a b : α} (h : some a = some b) : a = b := Option.some.inj h
def Sd (env : Nat → Option D) : List Operand → Option (List D)
 | [] => some []
 | x :: xs => match opd env x, Sd env xs with
  | some d, some ds => some (d :: ds)
  | _, _ => none
theorem NF {env : Nat → Option D} : ∀ {xs : List Operand} {ds : List D}, Sd env xs = some ds → xs.length = ds.length ∧ D1 env (Gk xs ds)
 | [], ds, h => by cases h; exact ⟨rfl, trivial⟩
 | x :: xs, ds, h => by
  simp only [Sd] at h
  split at h
  ·rename_i e1 e2
   cases h
   have := NF e2
   exact ⟨by simp [this.1], e1, this.2⟩
  ·cases h
def WH (bx : Nat → Option Bp) : List Nat → Option (List (Nat × Bp))
 | [] => some []
 | b :: bs => match bx b, WH bx bs with
  | some k, some ks => some ((b, k) :: ks)
  | _, _ => none
theorem R2 {bx : Nat → Option Bp} : ∀ {l : List Nat} {bs : List (Nat × Bp)}, WH bx l = some bs → Gb bx bs
 | [], bs, h => by cases h; trivial
 | b :: l, bs, h => by
  simp only [WH] at h
  split at h
  ·rename_i e1 e2
   cases h
   exact ⟨e1, R2 e2⟩
  ·cases h
def Vh (env : Nat → Option D) : List (Nat × Operand) → Option (List (Nat × Operand × E))
 | [] => some []
 | p :: ps => match opd env p.2, Vh env ps with
  | some (.e y), some qs => some ((p.1, p.2, y) :: qs)
  | _, _ => none
theorem P7 {env : Nat → Option D} : ∀ {l : List (Nat × Operand)} {ps : List (Nat × Operand × E)}, Vh env l = some ps → l = (ps.map fun p => (p.1, p.2.1)) ∧ D1 env (F7 ps)
 | [], ps, h => by cases h; exact ⟨rfl, trivial⟩
 | p :: l, ps, h => by
  simp only [Vh] at h
  split at h
  ·rename_i e1 e2
   cases h
   have := P7 e2
   exact ⟨by rw [zZ, ← this.1], e1, this.2⟩
  ·cases h
theorem Sb {env : Nat → Option D} {parts : Array (Nat × Operand)} {ps : List (Nat × Operand × E)} (h : Vh env parts.toList = some ps) : parts = (ps.map fun p => (p.1, p.2.1)).toArray ∧ D1 env (F7 ps) := by
 have := P7 h
 exact ⟨by rw [← this.1], this.2⟩
def TC (k : Nat) : List (Nat × Operand × E) → Bool
 | [] => true
 | p :: ps => Nat.beq p.1 k && TC (k + 1) ps
theorem QJ : ∀ {k : Nat} {ps : List (Nat × Operand × E)}, TC k ps = true → ps.map (·.1) = xN k ps.length
 | _, [], _ => rfl
 | k, p :: ps, h => by
  simp only [TC, zC] at h
  rw [zZ, y8, List.range'_succ, QJ h.2, Nat.eq_of_beq_eq_true h.1]
def Xi : Option Bp → Bool
 | none => true
 | some _ => false
theorem NR {bx : Nat → Option Bp} : ∀ {ns : List Nat}, (ns.all fun n => Xi (bx n)) = true → KC bx ns
 | [], _ => trivial
 | n :: ns, h => by
  simp only [yK, zC] at h
  refine ⟨?_, NR h.2⟩
  have := h.1
  cases hb : bx n with
  | none => rfl
  | some k => rw [hb] at this; cases this
theorem Nf {ns : List Nat} (h : (G9 ns && (ns.all fun n => !BI n)) = true) : Ix ns := by
 rw [zC] at h
 exact ⟨Es h.1, fun c hc => by simpa using zD.1 h.2 c hc⟩
def Wz (env : Nat → Option D) : List (Nat × D) → List (Option D)
 | [] => []
 | (s, _) :: ps => env s :: Wz env ps
def Wf (f : Nat → Nat) : List (Nat × D) → List (Option D)
 | [] => []
 | (_, d) :: ps => some (d.ren f) :: Wf f ps
def Wa (f : Nat → Nat) (bx : Nat → Option Bp) : List (Nat × Bp) → List (Option Bp)
 | [] => []
 | (b, _) :: ps => bx (f b) :: Wa f bx ps
def VQ (f : Nat → Nat) : List (Nat × Bp) → List (Option Bp)
 | [] => []
 | (_, k) :: ps => some (k.ren f) :: VQ f ps
theorem R7 {f : Nat → Nat} {env : Nat → Option D} : ∀ {el : List (Nat × D)}, Wz env el = Wf f el → Qq f env el
 | [], _ => trivial
 | (s, d) :: el, h => by
  simp only [Wz, Wf] at h
  obtain ⟨h1, h2⟩ := List.cons.inj h
  exact ⟨h1, R7 h2⟩
theorem RP {f : Nat → Nat} {bx : Nat → Option Bp} : ∀ {el : List (Nat × Bp)}, Wa f bx el = VQ f el → Qj f bx el
 | [], _ => trivial
 | (s, d) :: el, h => by
  simp only [Wa, VQ] at h
  obtain ⟨h1, h2⟩ := List.cons.inj h
  exact ⟨h1, RP h2⟩
theorem sm {st : St} (l : List (Nat × Nat)) (el : List (Nat × D)) (bl : List (Nat × Bp)) (h : (Wz st.env el, Wa (rn l) st.bx bl) = (Wf (rn l) el, VQ (rn l) bl)) (hi : ((G9 ((Ea bl).map (rn l)) && KE (rn l) (Ea bl)) && (Na (Ea bl) el && MY (Ea bl) bl)) = true) : Fb P X st (mk el bl) :=
 SC (rn l) el bl (R7 (t2 h).1) (RP (t2 h).2) (y5.1 hi).1 (y5.1 hi).2
section run
variable {dr : Bool} {Q : St → Prop} {r i : Nat} {st : St} {log : List (Nat × B7)} {gs : List (Operand × D)}
theorem qm {x : Operand} {d : D} {s : Nat} (h : (hd st.env ops i X.n, opd st.env x) = (some (.move x, s, gs), some d)) (next : Nx P X ops dr Q r i st log ⟨gs ++ [(x, d)], [], some s, some d, [], []⟩) : A7 P X ops dr Q (r + 1) i st log :=
 U8 (CM (t2 h).1) (t2 h).2 next
theorem qa {x : Operand} {d : D} {s : Nat} (h : (hd st.env ops i X.n, opd st.env x) = (some (.assign x, s, gs), some d)) (next : Nx P X ops dr Q r i st log ⟨gs ++ [(x, d)], [], some s, some d, [], []⟩) : A7 P X ops dr Q (r + 1) i st log :=
 Rz (CM (t2 h).1) (t2 h).2 next
theorem qn {j t s : Nat} {want : Bool} (h : (U1 ops i X.n, st.env t) = (some (j, s, t, want), some (bD (!want)))) (next : Nx P X ops dr Q r i st log ⟨[(.tmp t, bD (!want))], [], some s, some uD, [], []⟩) : A7 P X ops dr Q (r + 1) i st log :=
 UA (t2 h).1 (t2 h).2 next
theorem qu {j t s : Nat} {want : Bool} (h : (U1 ops i X.n, st.env t) = (some (j, s, t, want), some uD)) (next : Nx P X ops dr Q r i st log ⟨[(.tmp t, uD)], [], some s, some uD, [], []⟩) : A7 P X ops dr Q (r + 1) i st log :=
 Ut (t2 h).1 (t2 h).2 next
theorem qp {c x y : Operand} {b : Bool} {d : D} {z : Operand} {s : Nat} (h : (hd st.env ops i X.n, opd st.env c, (if b then x else y), opd st.env z) = (some (.pick c x y, s, gs), some (bD b), z, some d)) (next : Nx P X ops dr Q r i st log ⟨gs ++ [(c, bD b), (z, d)], [], some s, some d, [], []⟩) : A7 P X ops dr Q (r + 1) i st log :=
 UQ (CM (t2 h).1) (t2 (t2 h).2).1 (t2 (t2 (t2 h).2).2).1 (t2 (t2 (t2 h).2).2).2 next
theorem qf {x : Operand} {b k f off s : Nat} {t : TypeId} (hf : Bn P t f off = true) (h : (hd st.env ops i X.n, opd st.env x) = (some (.fieldAddr t x f, s, gs), some (.e (.one (.ptr b k))))) (next : Nx P X ops dr Q r i st log ⟨gs ++ [(x, .e (.one (.ptr b k)))], [], some s, some (.e (.one (.ptr b (k + off)))), [], []⟩) : A7 P X ops dr Q (r + 1) i st log :=
 O2 (CM (t2 h).1) (t2 h).2 hf next
theorem qg {x : Operand} {ts us : List T} {f off s : Nat} {t : TypeId} (hf : Bn P t f off = true) (h : (hd st.env ops i X.n, opd st.env x, yZ (off) (ts.length), ts.drop off) = (some (.fieldAddr t x f, s, gs), some (.e (.one (.rop ts))), true, us)) (next : Nx P X ops dr Q r i st log ⟨gs ++ [(x, .e (.one (.rop ts)))], [], some s, some (.e (.one (.rop us))), [], []⟩) : A7 P X ops dr Q (r + 1) i st log :=
 Ns (CM (t2 h).1) (t2 (t2 h).2).1 hf (zW (t2 (t2 (t2 h).2).2).1) (t2 (t2 (t2 h).2).2).2 next
theorem ql {x : Operand} {b k s : Nat} {cells : List C} {c : C} {t : TypeId} (ht : Eb P t false = true) (h : (hd st.env ops i X.n, opd st.env x, st.bx b, cells[k]?) = (some (.load t x, s, gs), some (.e (.one (.ptr b k))), some (.box cells), some c)) (next : Nx P X ops dr Q r i st log ⟨gs ++ [(x, .e (.one (.ptr b k)))], [(b, .box cells)], some s, some (.e (.one c)), [], []⟩) : A7 P X ops dr Q (r + 1) i st log :=
 S7 (CM (t2 h).1) (t2 (t2 h).2).1 ht (t2 (t2 (t2 h).2).2).1 (t2 (t2 (t2 h).2).2).2 next
theorem qL {x : Operand} {b k n s : Nat} {cells cs : List C} {t : TypeId} (ht : Eb P t true = true) (hz : Gl P t n = true) (h : (hd st.env ops i X.n, opd st.env x, st.bx b, (cells.drop k).take n, cs.length) = (some (.load t x, s, gs), some (.e (.one (.ptr b k))), some (.box cells), cs, n)) (next : Nx P X ops dr Q r i st log ⟨gs ++ [(x, .e (.one (.ptr b k)))], [(b, .box cells)], some s, some (.e (.agg cs)), [], []⟩) : A7 P X ops dr Q (r + 1) i st log :=
 ST (CM (t2 h).1) (t2 (t2 h).2).1 ht hz (t2 (t2 (t2 h).2).2).1 (t2 (t2 (t2 (t2 h).2).2).2).1 (t2 (t2 (t2 (t2 h).2).2).2).2 next
theorem qk {x : Operand} {s : Nat} {ts : List T} {u : T} {t : TypeId} (ht : Eb P t false = true) (h : (hd st.env ops i X.n, opd st.env x, ts[0]?) = (some (.load t x, s, gs), some (.e (.one (.rop ts))), some u)) (next : Nx P X ops dr Q r i st log ⟨gs ++ [(x, .e (.one (.rop ts)))], [], some s, some (one u), [], []⟩) : A7 P X ops dr Q (r + 1) i st log :=
 R6 (CM (t2 h).1) (t2 (t2 h).2).1 ht (t2 (t2 h).2).2 next
theorem qK {x : Operand} {s n : Nat} {ts us : List T} {t : TypeId} (ht : Eb P t true = true) (hz : Gl P t n = true) (h : (hd st.env ops i X.n, opd st.env x, ts.take n, us.length) = (some (.load t x, s, gs), some (.e (.one (.rop ts))), us, n)) (next : Nx P X ops dr Q r i st log ⟨gs ++ [(x, .e (.one (.rop ts)))], [], some s, some (.e (.agg (us.map C.pure))), [], []⟩) : A7 P X ops dr Q (r + 1) i st log :=
 RU (CM (t2 h).1) (t2 (t2 h).2).1 ht hz (t2 (t2 (t2 h).2).2).1 (t2 (t2 (t2 h).2).2).2 next
theorem qx {x : Operand} {xs : List E} {y : E} {k s : Nat} (h : (hd st.env ops i X.n, opd st.env x, xs[k]?) = (some (.extract x k, s, gs), some (.tup xs), some y)) (next : Nx P X ops dr Q r i st log ⟨gs ++ [(x, .tup xs)], [], some s, some (.e y), [], []⟩) : A7 P X ops dr Q (r + 1) i st log :=
 Rl (CM (t2 h).1) (t2 (t2 h).2).1 (t2 (t2 h).2).2 next
theorem qb {x : Operand} {y : E} {s : Nat} {el : TypeId} (h : (hd st.env ops i X.n, opd st.env x, st.bx s) = (some (.box el x, s, gs), some (.e y), none)) (next : Nx P X ops dr Q r i st log ⟨gs ++ [(x, .e y)], [], some s, some (.e (.one (.ptr s 0))), [(s, .box y.cells)], [s]⟩) : A7 P X ops dr Q (r + 1) i st log :=
 V0 (CM (t2 h).1) (t2 (t2 h).2).1 (t2 (t2 h).2).2 next
theorem qz {z : Value} {zs : List Value} {s : Nat} {el : TypeId} (hz : Du P el = some z) (h : (hd st.env ops i X.n, z.cells.toList, zs.all F1, st.bx s) = (some (.alloc el, s, gs), zs, true, none)) (next : Nx P X ops dr Q r i st log ⟨gs ++ [], [], some s, some (.e (.one (.ptr s 0))), [(s, .box (zs.map fun v => C.pure (T.of v)))], [s]⟩) : A7 P X ops dr Q (r + 1) i st log :=
 SX (CM (t2 h).1) hz (t2 (t2 h).2).1 (t2 (t2 (t2 h).2).2).1 (t2 (t2 (t2 h).2).2).2 next
theorem qs {x y : Operand} {b k n : Nat} {cells cells' : List C} {v : E} {t : TypeId} (hz : Gl P t n = true) (h : (QX ops i, opd st.env x, opd st.env y, st.bx b, v.cells.length, yZ (k + n) (cells.length), HM cells k v.cells) = (some (.store t x y), some (.e (.one (.ptr b k))), some (.e v), some (.box cells), n, true, cells')) (next : Nx P X ops dr Q r i st log ⟨[(x, .e (.one (.ptr b k))), (y, .e v)], [(b, .box cells)], none, none, [(b, .box cells')], []⟩) : A7 P X ops dr Q (r + 1) i st log :=
 Tp (t2 h).1 (t2 (t2 h).2).1 (t2 (t2 (t2 h).2).2).1 (t2 (t2 (t2 (t2 h).2).2).2).1 hz (t2 (t2 (t2 (t2 (t2 h).2).2).2).2).1 (zW (t2 (t2 (t2 (t2 (t2 (t2 h).2).2).2).2).2).1) (t2 (t2 (t2 (t2 (t2 (t2 h).2).2).2).2).2).2 next
theorem qi {x y : Operand} {s e : Nat} {rows : List (List T)} {row : List T} {t el : TypeId} {k : IntKind} {n : Int} (ht : sliceB P t el = true) (hz : Gl P el e = true) (h0 : 0 ≤ n) (hrow : rows[n.toNat]? = some row) (h : (hd st.env ops i X.n, opd st.env x, opd st.env y, row.length) = (some (.indexAddr t x y, s, gs), some (one (.sl rows)), some (vD (.int k n)), e)) (next : Nx P X ops dr Q r i st log ⟨gs ++ [(x, one (.sl rows)), (y, vD (.int k n))], [], some s, some (.e (.one (.rop row))), [], []⟩) : A7 P X ops dr Q (r + 1) i st log :=
 Tc (CM (t2 h).1) (t2 (t2 h).2).1 (t2 (t2 (t2 h).2).2).1 ht hz h0 hrow (t2 (t2 (t2 h).2).2).2 next
theorem qI {x y : Operand} {s e b : Nat} {rows : List (List T)} {row : List T} {t el : TypeId} {k : IntKind} {n : Int} (ht : sliceB P t el = true) (hz : Gl P el e = true) (h0 : 0 ≤ n) (hrow : rows[n.toNat]? = some row) (h : (hd st.env ops i X.n, opd st.env x, opd st.env y, st.bx b) = (some (.indexAddr t x y, s, gs), some (.e (.one (.own b))), some (vD (.int k n)), some (.vec e rows))) (next : Nx P X ops dr Q r i st log ⟨gs ++ [(x, .e (.one (.own b))), (y, vD (.int k n))], [(b, .vec e rows)], some s, some (.e (.one (.eptr b e n.toNat 0))), [], []⟩) : A7 P X ops dr Q (r + 1) i st log :=
 Om (CM (t2 h).1) (t2 (t2 h).2).1 (t2 (t2 (t2 h).2).2).1 (t2 (t2 (t2 h).2).2).2 ht hz h0 hrow next
theorem qj {x : Operand} {b e ix k s : Nat} {rows : List (List T)} {row : List T} {u : T} {t : TypeId} (ht : Eb P t false = true) (hrow : rows[ix]? = some row) (h : (hd st.env ops i X.n, opd st.env x, st.bx b, row[k]?) = (some (.load t x, s, gs), some (.e (.one (.eptr b e ix k))), some (.vec e rows), some u)) (next : Nx P X ops dr Q r i st log ⟨gs ++ [(x, .e (.one (.eptr b e ix k)))], [(b, .vec e rows)], some s, some (one u), [], []⟩) : A7 P X ops dr Q (r + 1) i st log :=
 Pg (CM (t2 h).1) (t2 (t2 h).2).1 ht (t2 (t2 (t2 h).2).2).1 hrow (t2 (t2 (t2 h).2).2).2 next
theorem qJ {x : Operand} {b e ix s : Nat} {rows : List (List T)} {row : List T} {t : TypeId} (ht : Eb P t true = true) (hz : Gl P t e = true) (hrow : rows[ix]? = some row) (h : (hd st.env ops i X.n, opd st.env x, st.bx b) = (some (.load t x, s, gs), some (.e (.one (.eptr b e ix 0))), some (.vec e rows))) (next : Nx P X ops dr Q r i st log ⟨gs ++ [(x, .e (.one (.eptr b e ix 0)))], [(b, .vec e rows)], some s, some (.e (.agg (row.map C.pure))), [], []⟩) : A7 P X ops dr Q (r + 1) i st log :=
 SE (CM (t2 h).1) (t2 (t2 h).2).1 ht hz (t2 (t2 h).2).2 hrow next
theorem HS {x : Operand} {s b k : Nat} (h : (hd st.env ops i X.n, opd st.env x) = (some (.nilCheck x, s, gs), some (.e (.one (.ptr b k))))) (next : Nx P X ops dr Q r i st log ⟨gs ++ [(x, .e (.one (.ptr b k)))], [], some s, some (.e (.one (.ptr b k))), [], []⟩) : A7 P X ops dr Q (r + 1) i st log :=
 Pz (CM (t2 h).1) (t2 h).2 next
theorem Cl {k : IntKind} {xt yt : TypeId} {x y : Operand} {a b : Int} {s : Nat} (h : (hd st.env ops i X.n, opd st.env x, opd st.env y) = (some (.binOp .add xt x y yt, s, gs), some (vD (.int k a)), some (vD (.int k b)))) (next : Nx P X ops dr Q r i st log ⟨gs ++ [(x, vD (.int k a)), (y, vD (.int k b))], [], some s, some (vD (.int k (k.wrap (a + b)))), [], []⟩) : A7 P X ops dr Q (r + 1) i st log :=
 Er (CM (t2 h).1) (t2 (t2 h).2).1 (t2 (t2 h).2).2 (Tf _ _ _ _ _ _) rfl next
theorem J9 {k : IntKind} {xt yt : TypeId} {x y : Operand} {a b : Int} {s : Nat} (h : (hd st.env ops i X.n, opd st.env x, opd st.env y) = (some (.binOp .sub xt x y yt, s, gs), some (vD (.int k a)), some (vD (.int k b)))) (next : Nx P X ops dr Q r i st log ⟨gs ++ [(x, vD (.int k a)), (y, vD (.int k b))], [], some s, some (vD (.int k (k.wrap (a - b)))), [], []⟩) : A7 P X ops dr Q (r + 1) i st log :=
 Er (CM (t2 h).1) (t2 (t2 h).2).1 (t2 (t2 h).2).2 (Ts _ _ _ _ _ _) rfl next
theorem MQ {k : IntKind} {xt yt : TypeId} {x y : Operand} {a b : Int} {s : Nat} (h : (hd st.env ops i X.n, opd st.env x, opd st.env y) = (some (.binOp .mul xt x y yt, s, gs), some (vD (.int k a)), some (vD (.int k b)))) (next : Nx P X ops dr Q r i st log ⟨gs ++ [(x, vD (.int k a)), (y, vD (.int k b))], [], some s, some (vD (.int k (k.wrap (a * b)))), [], []⟩) : A7 P X ops dr Q (r + 1) i st log :=
 Er (CM (t2 h).1) (t2 (t2 h).2).1 (t2 (t2 h).2).2 (Tm _ _ _ _ _ _) rfl next
theorem AN {k : IntKind} {xt yt : TypeId} {x y : Operand} {a b : Int} {s : Nat} (h : (hd st.env ops i X.n, opd st.env x, opd st.env y) = (some (.binOp .eql xt x y yt, s, gs), some (vD (.int k a)), some (vD (.int k b)))) (next : Nx P X ops dr Q r i st log ⟨gs ++ [(x, vD (.int k a)), (y, vD (.int k b))], [], some s, some (vD (.bool (a == b))), [], []⟩) : A7 P X ops dr Q (r + 1) i st log :=
 Er (CM (t2 h).1) (t2 (t2 h).2).1 (t2 (t2 h).2).2 (Tl _ _ _ _ _ _) rfl next
theorem BG {k : IntKind} {xt yt : TypeId} {x y : Operand} {a b : Int} {s : Nat} (h : (hd st.env ops i X.n, opd st.env x, opd st.env y) = (some (.binOp .neq xt x y yt, s, gs), some (vD (.int k a)), some (vD (.int k b)))) (next : Nx P X ops dr Q r i st log ⟨gs ++ [(x, vD (.int k a)), (y, vD (.int k b))], [], some s, some (vD (.bool (a != b))), [], []⟩) : A7 P X ops dr Q (r + 1) i st log :=
 Er (CM (t2 h).1) (t2 (t2 h).2).1 (t2 (t2 h).2).2 (TT _ _ _ _ _ _) rfl next
theorem A4 {k : IntKind} {xt yt : TypeId} {x y : Operand} {a b : Int} {s : Nat} (h : (hd st.env ops i X.n, opd st.env x, opd st.env y) = (some (.binOp .lss xt x y yt, s, gs), some (vD (.int k a)), some (vD (.int k b)))) (next : Nx P X ops dr Q r i st log ⟨gs ++ [(x, vD (.int k a)), (y, vD (.int k b))], [], some s, some (vD (.bool (decide (a < b)))), [], []⟩) : A7 P X ops dr Q (r + 1) i st log :=
 Er (CM (t2 h).1) (t2 (t2 h).2).1 (t2 (t2 h).2).2 (TA _ _ _ _ _ _) rfl next
theorem KT {k : IntKind} {xt yt : TypeId} {x y : Operand} {a b : Int} {s : Nat} (h : (hd st.env ops i X.n, opd st.env x, opd st.env y) = (some (.binOp .leq xt x y yt, s, gs), some (vD (.int k a)), some (vD (.int k b)))) (next : Nx P X ops dr Q r i st log ⟨gs ++ [(x, vD (.int k a)), (y, vD (.int k b))], [], some s, some (vD (.bool (decide (a ≤ b)))), [], []⟩) : A7 P X ops dr Q (r + 1) i st log :=
 Er (CM (t2 h).1) (t2 (t2 h).2).1 (t2 (t2 h).2).2 (Tq _ _ _ _ _ _) rfl next
theorem Ed {k : IntKind} {xt yt : TypeId} {x y : Operand} {a b : Int} {s : Nat} (h : (hd st.env ops i X.n, opd st.env x, opd st.env y) = (some (.binOp .gtr xt x y yt, s, gs), some (vD (.int k a)), some (vD (.int k b)))) (next : Nx P X ops dr Q r i st log ⟨gs ++ [(x, vD (.int k a)), (y, vD (.int k b))], [], some s, some (vD (.bool (decide (b < a)))), [], []⟩) : A7 P X ops dr Q (r + 1) i st log :=
 Er (CM (t2 h).1) (t2 (t2 h).2).1 (t2 (t2 h).2).2 (Ta _ _ _ _ _ _) rfl next
theorem C9 {k : IntKind} {xt yt : TypeId} {x y : Operand} {a b : Int} {s : Nat} (h : (hd st.env ops i X.n, opd st.env x, opd st.env y) = (some (.binOp .geq xt x y yt, s, gs), some (vD (.int k a)), some (vD (.int k b)))) (next : Nx P X ops dr Q r i st log ⟨gs ++ [(x, vD (.int k a)), (y, vD (.int k b))], [], some s, some (vD (.bool (decide (b ≤ a)))), [], []⟩) : A7 P X ops dr Q (r + 1) i st log :=
 Er (CM (t2 h).1) (t2 (t2 h).2).1 (t2 (t2 h).2).2 (S6 _ _ _ _ _ _) rfl next
theorem Nb {k : IntKind} {xt yt : TypeId} {x y : Operand} {a b : Int} {s : Nat} (h : (hd st.env ops i X.n, opd st.env x, opd st.env y) = (some (.binOp .and xt x y yt, s, gs), some (vD (.int k a)), some (vD (.int k b)))) (next : Nx P X ops dr Q r i st log ⟨gs ++ [(x, vD (.int k a)), (y, vD (.int k b))], [], some s, some (vD (.int k (Ft k a b))), [], []⟩) : A7 P X ops dr Q (r + 1) i st log :=
 Er (CM (t2 h).1) (t2 (t2 h).2).1 (t2 (t2 h).2).2 (TI _ _ _ _ _ _) rfl next
theorem RM {k : IntKind} {xt yt : TypeId} {x y : Operand} {a b : Int} {s : Nat} (h : (hd st.env ops i X.n, opd st.env x, opd st.env y) = (some (.binOp .or xt x y yt, s, gs), some (vD (.int k a)), some (vD (.int k b)))) (next : Nx P X ops dr Q r i st log ⟨gs ++ [(x, vD (.int k a)), (y, vD (.int k b))], [], some s, some (vD (.int k (Le k a b))), [], []⟩) : A7 P X ops dr Q (r + 1) i st log :=
 Er (CM (t2 h).1) (t2 (t2 h).2).1 (t2 (t2 h).2).2 (UX _ _ _ _ _ _) rfl next
theorem Hd {k : IntKind} {xt yt : TypeId} {x y : Operand} {a b : Int} {s : Nat} (h : (hd st.env ops i X.n, opd st.env x, opd st.env y) = (some (.binOp .andNot xt x y yt, s, gs), some (vD (.int k a)), some (vD (.int k b)))) (next : Nx P X ops dr Q r i st log ⟨gs ++ [(x, vD (.int k a)), (y, vD (.int k b))], [], some s, some (vD (.int k (Cr k a b))), [], []⟩) : A7 P X ops dr Q (r + 1) i st log :=
 Er (CM (t2 h).1) (t2 (t2 h).2).1 (t2 (t2 h).2).2 (PJ _ _ _ _ _ _) rfl next
theorem Ik {k k' : IntKind} {xt yt : TypeId} {x y : Operand} {a b : Int} {s : Nat} (h : (hd st.env ops i X.n, opd st.env x, opd st.env y) = (some (.binOp .shl xt x y yt, s, gs), some (vD (.int k a)), some (vD (.int k' b)))) (hc : 0 ≤ b) (next : Nx P X ops dr Q r i st log ⟨gs ++ [(x, vD (.int k a)), (y, vD (.int k' b))], [], some s, some (vD (.int k (DE k a b))), [], []⟩) : A7 P X ops dr Q (r + 1) i st log :=
 Er (CM (t2 h).1) (t2 (t2 h).2).1 (t2 (t2 h).2).2 (Te _ _ _ _ _ _ _ hc) rfl next
theorem K1 {k k' : IntKind} {xt yt : TypeId} {x y : Operand} {a b : Int} {s : Nat} (h : (hd st.env ops i X.n, opd st.env x, opd st.env y) = (some (.binOp .shr xt x y yt, s, gs), some (vD (.int k a)), some (vD (.int k' b)))) (hc : 0 ≤ b) (next : Nx P X ops dr Q r i st log ⟨gs ++ [(x, vD (.int k a)), (y, vD (.int k' b))], [], some s, some (vD (.int k (FG k a b))), [], []⟩) : A7 P X ops dr Q (r + 1) i st log :=
 Er (CM (t2 h).1) (t2 (t2 h).2).1 (t2 (t2 h).2).2 (TD _ _ _ _ _ _ _ hc) rfl next
theorem B9 {xt : TypeId} {x : Operand} {b : Bool} {s : Nat} (h : (hd st.env ops i X.n, opd st.env x) = (some (.unOp .not xt x, s, gs), some (bD b))) (next : Nx P X ops dr Q r i st log ⟨gs ++ [(x, bD b)], [], some s, some (vD (.bool (!b))), [], []⟩) : A7 P X ops dr Q (r + 1) i st log :=
 Xe (CM (t2 h).1) (t2 h).2 (Uy _) rfl next
theorem K5 {xt yt : TypeId} {k k' : IntKind} {x : Operand} {a : Int} {s : Nat} (hs : (P.underlying xt).isSome = true) (ht : N3 P yt k = true) (h : (hd st.env ops i X.n, opd st.env x) = (some (.convert xt yt x, s, gs), some (vD (.int k' a)))) (next : Nx P X ops dr Q r i st log ⟨gs ++ [(x, vD (.int k' a))], [], some s, some (vD (.int k (k.wrap a))), [], []⟩) : A7 P X ops dr Q (r + 1) i st log :=
 U7 (CM (t2 h).1) (t2 h).2 (R9 hs ht _ _) rfl next
theorem AH {α : Type} {f : α → List T} {xs : List α} {x : Operand} {s : Nat} {t el : TypeId} (ht : sliceB P t el = true) (h : (hd st.env ops i X.n, opd st.env x) = (some (.call ⟨.builtin .len, #[x], #[t]⟩, s, gs), some (one (.sl (xs.map f))))) (next : Nx P X ops dr Q r i st log ⟨gs ++ [(x, one (.sl (xs.map f)))], [], some s, some (vD (.int .i64 (xs.length : Int))), [], []⟩) : A7 P X ops dr Q (r + 1) i st log :=
 TX (CM (t2 h).1) (t2 h).2 (.sl _) trivial (zY _) ht next
theorem PA {α : Type} {f : α → List T} {xs : List α} {x : Operand} {s b e : Nat} {t el : TypeId} (ht : sliceB P t el = true) (h : (hd st.env ops i X.n, opd st.env x, st.bx b) = (some (.call ⟨.builtin .len, #[x], #[t]⟩, s, gs), some (.e (.one (.own b))), some (.vec e (xs.map f)))) (next : Nx P X ops dr Q r i st log ⟨gs ++ [(x, .e (.one (.own b)))], [(b, .vec e (xs.map f))], some s, some (vD (.int .i64 (xs.length : Int))), [], []⟩) : A7 P X ops dr Q (r + 1) i st log :=
 TX (CM (t2 h).1) (t2 (t2 h).2).1 (.own _ _ _) ⟨(t2 (t2 h).2).2, trivial⟩ (zY _) ht next
theorem Bq {t : TypeId} {s : Nat} {z : Value} {zs : List Value} {pl : List (Nat × Nat)} {cells : List C} {parts : Array (Nat × Operand)} {ps : List (Nat × Operand × E)} (hz : Du P t = some z) (hpl : Gs P t = some pl) (h : (hd st.env ops i X.n, Vh st.env parts.toList, z.cells.toList, zs.all F1, Jy (pl[·]?) (zs.map fun v => C.pure (T.of v)) (ps.map fun p => (p.1, p.2.2))) = (some (.build t parts, s, gs), some ps, zs, true, some cells)) (next : Nx P X ops dr Q r i st log ⟨gs ++ F7 ps, [], some s, some (.e (.agg cells)), [], []⟩) : A7 P X ops dr Q (r + 1) i st log :=
 have q := Sb (t2 (t2 h).2).1
 TR ps (CM (t2 h).1) (by rw [← q.1]) q.2 hz (t2 (t2 (t2 h).2).2).1 (t2 (t2 (t2 (t2 h).2).2).2).1 hpl (t2 (t2 (t2 (t2 h).2).2).2).2 next
theorem FJ {t el : TypeId} {s n e : Nat} {z : Value} {rows : List (List T)} {parts : Array (Nat × Operand)} {ps : List (Nat × Operand × E)} (ht : sliceB P t el = true) (he : Gl P el e = true) (hz : Du P el = some z) (h : (hd st.env ops i X.n, Vh st.env parts.toList, st.bx s, TC 0 ps, ps.length, yZ (n * e) 16777216, (ps.map fun p => (p.1, p.2.2)).mapM (fun p => p.2.ts), rows.all (fun row => row.length == e)) = (some (.buildSlice t n parts, s, gs), some ps, none, true, n, true, some rows, true)) (next : Nx P X ops dr Q r i st log ⟨gs ++ F7 ps, [], some s, some (.e (.one (.own s))), [(s, .vec e rows)], [s]⟩) : A7 P X ops dr Q (r + 1) i st log :=
 have q := Sb (t2 (t2 h).2).1
 have g := (t2 (t2 (t2 h).2).2).2
 NE ps (CM (t2 h).1) (by rw [← q.1]) q.2 (t2 (t2 (t2 h).2).2).1 ht he hz (QJ (t2 g).1) (t2 (t2 g).2).1 (zW (t2 (t2 (t2 g).2).2).1) (t2 (t2 (t2 (t2 g).2).2).2).1 (t2 (t2 (t2 (t2 g).2).2).2).2 next
theorem Av {f s : Nat} {xs : List Operand} {ds0 ds : List D} {rv : List (Nat × List (List T))} {res : D} {ts : Array TypeId} (ns : List Nat) (hc : Ar P f ds rv res) (hf : Ay P f = true) (h : (hd st.env ops i X.n, Sd st.env xs, ds0.map D.nrm, ds.all Ot, ns.length, G9 ns && (ns.all fun n => !BI n), ns.all (fun n => Xi (st.bx n)), res.names.all (fun b => decide (b < rv.length))) = (some (.call ⟨.value (.func f), xs.toArray, ts⟩, s, gs), some ds0, ds, true, rv.length, true, true, true)) (next : Nx P X ops dr Q r i st log ⟨gs ++ Gk xs ds0, [], some s, some (res.ren (nm ns)), Hp ns rv, ns⟩) : A7 P X ops dr Q (r + 1) i st log :=
 have q := NF (t2 (t2 h).2).1
 have g := (t2 (t2 (t2 h).2).2).2
 Uw ns hc (CM (t2 h).1) hf q.1 q.2 (t2 (t2 (t2 h).2).2).1 (t2 g).1 (t2 (t2 g).2).1 (Nf (t2 (t2 (t2 g).2).2).1) (NR (t2 (t2 (t2 (t2 g).2).2).2).1) (t2 (t2 (t2 (t2 g).2).2).2).2 next
theorem Hw {f s : Nat} {xs : List Operand} {ds0 ds : List D} {rv : List (Nat × List (List T))} {res : D} {ts : Array TypeId} {bs : List (Nat × Bp)} (ns lb : List Nat) (hc : Ar P f ds rv res) (hf : Ay P f = true) (hfv : OS rv) (h : (hd st.env ops i X.n, Sd st.env xs, WH st.bx lb, ds0.map (fun d => (d.lend bs).nrm), ds.all Ot, ns.length, G9 ns && (ns.all fun n => !BI n), ns.all (fun n => Xi (st.bx n)), res.flat, res.names.all (fun b => decide (b < rv.length))) = (some (.call ⟨.value (.func f), xs.toArray, ts⟩, s, gs), some ds0, some bs, ds, true, rv.length, true, true, true, true)) (next : Nx P X ops dr Q r i st log ⟨gs ++ Gk xs ds0, bs, some s, some (res.ren (nm ns)), Hp ns rv, ns⟩) : A7 P X ops dr Q (r + 1) i st log :=
 have q := NF (t2 (t2 h).2).1
 have g := (t2 (t2 (t2 h).2).2).2
 have g2 := (t2 (t2 (t2 g).2).2).2
 Tu ns bs hc (CM (t2 h).1) hf q.1 q.2 (R2 (t2 (t2 (t2 h).2).2).1) (t2 g).1 (t2 (t2 g).2).1 (t2 (t2 (t2 g).2).2).1 (Nf (t2 g2).1) (NR (t2 (t2 g2).2).1) (t2 (t2 (t2 g2).2).2).1 hfv (t2 (t2 (t2 g2).2).2).2 next
theorem Lr {α : Type} {f : α → List T} {xs : List α} {ys : List α} {x y : Operand} {t t2' el el2 s e bytes b b2 : Nat} {z : Value} (ht : sliceB P t el = true) (ht2 : sliceB P t2' el2 = true) (he : Gl P el e = true) (hby : Gi P el bytes = true) (hz : Du P el = some z) (hlim : xs.length + ys.length ≤ Hn) (h : (hd st.env ops i X.n, opd st.env x, st.bx b, opd st.env y, st.bx b2, st.bx s, z.cells.size, yZ bytes 4096, [b].all (fun b => !BI b)) = (some (.call ⟨.builtin .append, #[x, y], #[t, t2']⟩, s, gs), some (.e (.one (.own b))), some (.vec e (xs.map f)), some (.e (.one (.own b2))), some (.vec e (ys.map f)), none, e, true, true)) (next : Nx P X ops dr Q r i st log ⟨gs ++ [(x, .e (.one (.own b))), (y, .e (.one (.own b2)))], [(b, .vec e (xs.map f))] ++ [(b2, .vec e (ys.map f))], some s, some (.e (.one (.own s))), (s, .vec e ((xs ++ ys).map f)) :: Il [b], [s]⟩) : A7 P X ops dr Q (r + 1) i st log :=
 OC (CM (t2 h).1) (t2 (t2 h).2).1 (.own _ _ _) ⟨(t2 (t2 (t2 h).2).2).1, trivial⟩ (t2 (t2 (t2 (t2 h).2).2).2).1 (.own _ _ _) ⟨(t2 (t2 (t2 (t2 (t2 h).2).2).2).2).1, trivial⟩ (t2 (t2 (t2 (t2 (t2 (t2 h).2).2).2).2).2).1 ht ht2 he hby (zW (t2 (t2 (t2 (t2 (t2 (t2 (t2 (t2 h).2).2).2).2).2).2).2).1) hz (t2 (t2 (t2 (t2 (t2 (t2 (t2 h).2).2).2).2).2).2).1 (by simpa using hlim) (by simp) (t2 (t2 (t2 (t2 (t2 (t2 (t2 (t2 h).2).2).2).2).2).2).2).2 next
theorem Kk {α : Type} {f : α → List T} {xs : List α} {ys : List α} {x y : Operand} {t t2' el el2 s e bytes b : Nat} {z : Value} (ht : sliceB P t el = true) (ht2 : sliceB P t2' el2 = true) (he : Gl P el e = true) (hby : Gi P el bytes = true) (hz : Du P el = some z) (hf : ∀ x, (f x).length = e) (hlim : xs.length + ys.length ≤ Hn) (h : (hd st.env ops i X.n, opd st.env x, st.bx b, opd st.env y, st.bx s, z.cells.size, yZ bytes 4096, [b].all (fun b => !BI b)) = (some (.call ⟨.builtin .append, #[x, y], #[t, t2']⟩, s, gs), some (.e (.one (.own b))), some (.vec e (xs.map f)), some (one (.sl (ys.map f))), none, e, true, true)) (next : Nx P X ops dr Q r i st log ⟨gs ++ [(x, .e (.one (.own b))), (y, one (.sl (ys.map f)))], [(b, .vec e (xs.map f))] ++ [], some s, some (.e (.one (.own s))), (s, .vec e ((xs ++ ys).map f)) :: Il [b], [s]⟩) : A7 P X ops dr Q (r + 1) i st log :=
 OC (CM (t2 h).1) (t2 (t2 h).2).1 (.own _ _ _) ⟨(t2 (t2 (t2 h).2).2).1, trivial⟩ (t2 (t2 (t2 (t2 h).2).2).2).1 (.sl _ _ (HO hf _)) trivial (t2 (t2 (t2 (t2 (t2 h).2).2).2).2).1 ht ht2 he hby (zW (t2 (t2 (t2 (t2 (t2 (t2 (t2 h).2).2).2).2).2).2).1) hz (t2 (t2 (t2 (t2 (t2 (t2 h).2).2).2).2).2).1 (by simpa using hlim) (by simp) (t2 (t2 (t2 (t2 (t2 (t2 (t2 h).2).2).2).2).2).2).2 next
end run
end Go.Lift
namespace Go.Lift
open Go.RowKit
variable {P : Program}
def Vm (P : Program) : List D → List D → Prop
 | [], [] => True
 | a :: ar, b :: bs => (∀ (w : World) (G : Gh) (v : Value), FT P w G v a → FT P w G v b) ∧ Vm P ar bs
 | _, _ => False
theorem Vm.get : ∀ {ar bs : List D}, Vm P ar bs → ar.length = bs.length ∧ ∀ (j : Nat) (b : D), bs[j]? = some b → ∃ a, ar[j]? = some a ∧ ∀ (w : World) (G : Gh) (v : Value), FT P w G v a → FT P w G v b
 | [], [], _ => ⟨rfl, fun j b h => by simp at h⟩
 | a :: ar, b :: bs, h => by
  obtain ⟨h1, h2⟩ := Vm.get h.2
  refine ⟨by simp [h1], fun j c hj => ?_⟩
  cases j with
  | zero => simp at hj; subst hj; exact ⟨a, rfl, h.1⟩
  | succ j => obtain ⟨a', g1, g2⟩ := h2 j c (by simpa using hj); exact ⟨a', by simpa using g1, g2⟩
theorem DI.weak {f : FuncId} {ds ds' : List D} {lent : List (Bp × Bp)} {rv : List Bp} {res : D} (h : DI P f ds lent rv res) (hp : Vm P ds' ds) : DI P f ds' lent rv res := by
 intro w G vs h1 hgk h2 h3 h4 hlen hargs
 obtain ⟨g1, g2⟩ := hp.get
 refine h w G vs h1 hgk h2 h3 h4 (by rw [hlen, g1]) fun j d hj => ?_
 obtain ⟨a, e1, e2⟩ := g2 j d hj
 exact e2 w G _ (hargs j a e1)
end Go.Lift
namespace Go.Lift
open Go.RowKit
variable {P : Program} {X : Gy} {ops : Array Oper}
section run
variable {dr : Bool} {Q : St → Prop} {r i : Nat} {st : St} {log : List (Nat × B7)} {gs : List (Operand × D)}
end run
end Go.Lift
namespace Go.Lift
abbrev iC (x : Int) : C := .pure (.val (.int .i64 x))
abbrev sC (l : List (List T)) : C := .pure (.sl l)
abbrev iD (x : Int) : D := .e (.one (.pure (.val (.int .i64 x))))
abbrev pD (t : T) : D := .e (.one (.pure t))
abbrev oD (c : C) : D := .e (.one c)
theorem tv : True := trivial
end Go.Lift
namespace Go.Lift
open Go.RowKit
variable {P : Program} {X : Gy} {ops : Array Oper}
section run
variable {dr : Bool} {Q : St → Prop} {r i : Nat} {st : St} {log : List (Nat × B7)} {o : Oper} {gs : List (Operand × D)}
end run
end Go.Lift
namespace Go.Lift
open Go.RowKit
variable {P : Program} {X : Gy} {ops : Array Oper}
def nt (b : Nat) (ns : List Nat) (c : Nat) : Nat := if c = 90900 then b else ns.getD c 0
section run
variable {dr : Bool} {Q : St → Prop} {r i : Nat} {st : St} {log : List (Nat × B7)} {o : Oper} {gs : List (Operand × D)}
end run
end Go.Lift
namespace Go.Lift
open Go.RowKit
variable {P : Program} {X : Gy} {ops : Array Oper}
end Go.Lift
namespace Go.Lift
open Go.RowKit
variable {P : Program} {X : Gy} {ops : Array Oper}
section run
variable {dr : Bool} {Q : St → Prop} {r i : Nat} {st : St} {log : List (Nat × B7)} {o : Oper} {gs : List (Operand × D)}
end run
end Go.Lift
namespace Go.Lift
open Go.RowKit
variable {P : Program} {X : Gy} {ops : Array Oper}
section run
variable {dr : Bool} {Q : St → Prop} {r i : Nat} {st : St} {log : List (Nat × B7)} {o : Oper} {gs : List (Operand × D)}
end run
end Go.Lift
namespace Go.Lift
open Go.RowKit
variable {P : Program} {X : Gy} {ops : Array Oper}
section run
variable {dr : Bool} {Q : St → Prop} {r i : Nat} {st : St} {log : List (Nat × B7)} {o : Oper} {gs : List (Operand × D)}
end run
end Go.Lift
namespace Go.Lift
open Go.RowKit
variable {P : Program} {X : Gy} {ops : Array Oper}
section run
variable {dr : Bool} {Q : St → Prop} {r i : Nat} {st : St} {log : List (Nat × B7)} {o : Oper} {gs : List (Operand × D)}
end run
end Go.Lift
namespace Go.Lift
open Go.RowKit
variable {P : Program} {X : Gy}
theorem Bb {α : Type} {c : Operand} {x y : Code} {Q : Exit → St → Prop} {st : St} {b : Bool} {e1 e2 : Option α} {v : α} (h : AJ b e1 e2 = some v) (ht : e1 = some v → W P X x Q st) (hf : e2 = some v → W P X y Q st) (hc : opd st.env c = some (bD b) := by exact rfl) : W P X (.cond c x y) Q st :=
 UB hc (fun k => ht (Qm k h)) (fun k => hf (QI k h))
theorem Cp {ops : Array Oper} {dr : Bool} {Q : St → Prop} {r i : Nat} {st : St} {log : List (Nat × B7)} {α : Type} {b : Bool} {e1 e2 : Option α} {v : α} (t : Nat) (h : AJ b e1 e2 = some v) (hx : st.env t = some (bD b)) (h1 : e1 = some v → A7 P X ops dr Q r i (St.put st (some t) (some (bD true))) log) (h2 : e2 = some v → A7 P X ops dr Q r i (St.put st (some t) (some (bD false))) log) : A7 P X ops dr Q r i st log :=
 Tg hx (fun k => h1 (Qm k h)) (fun k => h2 (QI k h))
theorem sn {V R : Type} {J : V → Option R} {r : R} {S : V → St} {s : St} {v : V} {el : List (Nat × D)} {bl : List (Nat × Bp)} (l : List (Nat × Nat)) (h : J v = some r) (e : S v = mk el bl := by exact rfl) (h1 : (Wz s.env el, Wa (rn l) s.bx bl) = (Wf (rn l) el, VQ (rn l) bl) := by exact rfl) (h2 : ((G9 ((Ea bl).map (rn l)) && KE (rn l) (Ea bl)) && (Na (Ea bl) el && MY (Ea bl) bl)) = true := by exact rfl) : ∃ v, J v = some r ∧ Fb P X s (S v) :=
 ⟨v, h, e ▸ sm l el bl h1 h2⟩
theorem XA {y : Code} {id : Nat} {ops : Array Oper} {dr : Bool} {Q : Exit → St → Prop} {st : St} {n : Nat} (hm : P.follows .mixedOrders = true) (hn : ops.size = n)
  (h : A7 P X ops dr (fun st' => W P X y Q st') n 0 st []) : W P X (.seq (.region id ops dr) y) Q st :=
 AR (Aj hm hn h)
theorem BN {G : Prop} {α β : Type} {xs : List α} {i : Int} {f : α → Option β} {r : β} (h : (Bk xs i).bind f = some r) (k : ∀ x, 0 ≤ i → xs[i.toNat]? = some x → f x = some r → G) : G := by
 obtain ⟨x, a, b, c⟩ := Sq h
 exact k x a b c
theorem B4 {G : Prop} {α β : Type} {x : Option α} {f : α → Option β} {r : β} (h : x.bind f = some r) (k : ∀ a, x = some a → f a = some r → G) : G := by
 obtain ⟨a, b, c⟩ := bind_some h
 exact k a b c
theorem HL {G : Prop} {β : Type} {p : Prop} [Decidable p] {f : Unit → Option β} {r : β} (h : (E7 p).bind f = some r) (k : p → f () = some r → G) : G := k (Hk h).1 (Hk h).2
section
variable {ops : Array Oper} {dr : Bool} {Q : St → Prop} {r i : Nat} {st : St} {log : List (Nat × B7)} {gs : List (Operand × D)}
theorem qe {x : Operand} {d : D} {s : Nat} (h : (hd st.env ops i X.n, opd st.env x) = (some (.assign x, s, gs), some d)) (k : Q (B7.upd ⟨gs ++ [(x, d)], [], some s, some d, [], []⟩ st)) : A7 P X ops false Q (0 + 1) i st log :=
 qa h (Ab k)
def RD (n : Nat) (ops : Array Oper) (i : Nat) (st : St) : Option B7 :=
 match (match U1 ops i n with
  | some (_, s, t, want) => (match st.env t with
   | some (.e (.one (.pure (.val (.bool b))))) => (match b, want with
    | true, false => some (s, t, want)
    | false, true => some (s, t, want)
    | _, _ => none)
   | _ => none)
  | none => none) with
 | some (s, t, want) => some ⟨[(.tmp t, bD (!want))], [], some s, some uD, [], []⟩
 | none => match hd st.env ops i n with
  | some (.move x, s, gs) => (opd st.env x).map fun d => ⟨gs ++ [(x, d)], [], some s, some d, [], []⟩
  | _ => none
def TS (n : Nat) (ops : Array Oper) : Nat → Nat → St → List (Nat × B7) → Option (St × List (Nat × B7))
 | 0, _, st, log => some (st, log)
 | k + 1, i, st, log => match RD n ops i st with
  | none => none
  | some l => TS n ops k (i + 1) (B7.upd l st) ((i, l) :: log)
theorem R8 {l : B7} (h : RD X.n ops i st = some l) (next : Nx P X ops dr Q r i st log l) : A7 P X ops dr Q (r + 1) i st log := by
 unfold RD at h
 split at h
 ·rename_i s t want hh
  split at hh
  ·rename_i j s' t' want' ha
   split at hh
   ·rename_i b hb
    split at hh
    ·cases hh; cases h; exact qn (want := false) (by rw [ha, hb]; rfl) next
    ·cases hh; cases h; exact qn (want := true) (by rw [ha, hb]; rfl) next
    ·cases hh
   ·cases hh
  ·cases hh
 ·split at h
  ·rename_i x s gs' hh
   cases hd' : opd st.env x with
   | none => rw [hd'] at h; cases h
   | some d =>
    rw [hd'] at h
    cases h
    exact qm (by rw [hh, hd']) next
  ·cases h
theorem qw (k : Nat) {st' : St} {log' : List (Nat × B7)} (h : TS X.n ops k i st log = some (st', log')) (next : A7 P X ops dr Q r (i + k) st' log') : A7 P X ops dr Q (r + k) i st log := by
 induction k generalizing i st log with
 | zero => cases h; exact next
 | succ k ih =>
  rw [TS] at h
  split at h
  ·cases h
  ·rename_i l hl
   exact R8 hl (ih h (by rwa [y7, Nat.add_comm 1]))
end
theorem cw {f n : Nat} {fn : Func} {c : Code} {args : List D} {rv : List (Nat × List (List T))} {res : D} {rs : List ResultVar} (hf : P.funcs[f]? = some fn)
  (h : ∀ (w0 : World) (S0 : Nat → Prop), W P ⟨w0, S0, n, G0 S0⟩ c (fun e st => match e with | .normal | .ret => SJ P rs st rv res | _ => False) (U6 args))
  (hb : fn.body = some c := by exact rfl) (hn : fn.ntmps = n := by exact rfl) (hrs : fn.results.toList = rs := by exact rfl) (hl : args.length ≤ n := by exact GZ rfl) (hn9 : n ≤ 90000 := by exact GZ rfl) (hpub : args.all Ot = true := by exact rfl) : Ar P f args rv res :=
 Mt hf hb hn hrs hl hn9 hpub h
theorem tm {st : St} {t : Nat} {x : E} (h : st.env t = some (.e x) := by exact rfl) : VB P st [.tmp t] [x] := ⟨.tmp _ _ h, trivial⟩
end Go.Lift
namespace Go.Lift
open Go.RowKit Go.Shelf
def Vj {α : Type} (c : α → α → Int) (x y : α) : Prop := c x y < 0 ∧ 0 < c y x
structure RT {α : Type} (c : α → α → Int) (M : α → Prop) : Prop where
 self : ∀ x, M x → c x x = 0
 tri : ∀ x y, M x → M y → x = y ∨ Vj c x y ∨ Vj c y x
 trans : ∀ x y z, M x → M y → M z → Vj c x y → Vj c y z → Vj c x z
namespace RT
variable {α : Type} {c : α → α → Int} {M : α → Prop}
theorem lt (O : RT c M) {x y : α} (hx : M x) (hy : M y) : c x y < 0 ↔ Vj c x y := by
 refine ⟨fun h => ?_, fun h => h.1⟩
 rcases O.tri x y hx hy with e | e | e
 ·subst e; have := O.self x hx; omega
 ·exact e
 ·have := e.2; omega
end RT
section
variable {P : Program} {ρ : Ren} {α : Type}
end
end Go.Lift
namespace Go.Lift
open Go.RowKit Go.Shelf
section
variable {α : Type}
end
end Go.Lift
namespace Go.Lift
open Option renaming bind_some → oS
open Go.RowKit Go.ChangeShapes Go.WideShapes
variable {P : Program} {X : Gy} {ops : Array Oper}
section run
variable {dr : Bool} {Q : St → Prop} {r i : Nat} {st : St} {log : List (Nat × B7)} {o : Oper} {gs : List (Operand × D)}
theorem FX {xt : TypeId} (x y : Operand) (a b : ByteArray) (h : a.size + b.size ≤ 9223372036854775807) : EZ P .add xt x y (.string a) (.string b) (.string (a ++ b)) := fun w => by
 have := run_string_add_sum (P := P) (w := w) a b h
 simp [binOp_string_add, eqGuard, this]
theorem Mm {xt : TypeId} (x y : Operand) (a b : ByteArray) : EZ P .eql xt x y (.string a) (.string b) (.bool (a.toList == b.toList)) := fun w => by simp [eqGuard, binOp_string_eql]
end run
theorem UY {W : World} (h : ∀ x, x ∈ S3 → ∀ g, P.globalNamed x.1 = some g → Lib.TabIs P W x.1 x.2.1 x.2.2) : SO P W (PF W) := fun x hx g hg => by
 have h1 := h x hx g hg
 refine ⟨?_, h1⟩
 unfold Lib.TabIs World.var? at h1
 rw [hg, oS] at h1
 show g < W.heap.size
 split at h1
 ·rename_i e; exact (uF.1 e).1
 ·cases h1
theorem OM {H : Type} {enc : TypeId × Value → H} {C : Checked} {os : Os} {f : FuncId} {fn : Func} {s : ChangeSpec} {conds : List PathCond} {tb : TypeId} {d : Nat} {laid : List (String × DataW Unit)}
  (own : ownKnob C.prog.godebug = none) (started : os.Started) (noInit : C.prog.inits.idxOf? f = none) (hfn : C.prog.funcs[f]? = some fn)
  (witness : ∃ (w : World) (tape : Tape) (i : Input), w.os = os ∧ (w.forCall tape i).Shaped C.prog ∧ i.vars = [] ∧ Input.okWide C.prog (w.forCall tape i) .any w.heap.size f i ∧
   ((s.pre enc C.prog fn conds false (w.forCall tape i).memory i.args ∧ laidMetH C.prog laid (w.forCall tape i).memory) ∧ sizedMet enc C.prog fn (OpenSpec.ofChange s) false (w.forCall tape i).memory i.args) ∧ ({} : Assume).holds C.prog (lone (Frame.enter C.prog f i.args .normal) [] (w.forCall tape i)))
  (hv : s.vars = []) (hs : ∀ ds : List (DataW H), ds.length = fn.params.toList.length → s.fn H (ds ++ []) = { results := [.lit (.bool true)], args := ds })
  (hres : fn.resultTypes = #[tb]) (htb : C.prog.underlying tb = some .bool) (hl : laidOutB C.prog = true)
  (hread : (fn.params.toList.all fun t => C.prog.readableRec t && decide (t < C.prog.types.size)) = true) (hplain : (fn.params.toList.all (HH C.prog d)) = true)
  (law : ∀ Ds, H4 C.prog d fn.params.toList Ds → Ar C.prog f Ds [] (.e (.one (.pure (.val (.bool true))))))
  (hp : (laid.all fun x => x.2.handleName?.isNone) = true) (hgk : ∀ W, laidMet C.prog laid W → SO C.prog W (PF W)) :
  ReturnsInHanded {} C os f .any (fun w args => (s.pre enc C.prog fn conds false w args ∧ laidMetH C.prog laid w) ∧ sizedMet enc C.prog fn (OpenSpec.ofChange s) false w args) (s.post enc C.prog fn false true false false) := by
 refine returnsInHanded_of_change_and (X := fun w _ => laidMetH C.prog laid w) (fun _ _ _ hh h => by rw [MakeChecks.laidMetH_plain _ _ _ hp] at h ⊢; exact h.of_heap hh) own started noInit hfn witness ?_
 intro W base args ds gs before hval hW _ _ hL _
 rw [MakeChecks.laidMetH_plain _ _ _ hp] at hL
 have hW' := hW
 obtain ⟨p, q, hA, hV, rfl, _, _⟩ := hW
 rw [hv] at hV
 obtain ⟨rfl, rfl⟩ := trodVars_none hV
 obtain ⟨Ds, h1, h2, h3, h4⟩ := Qi hplain (fun j t v hj hvj => hval j t v (by simpa using hj) (by simpa using hvj)) hA
 have hlt : ∀ x ∈ p, x.block < W.heap.size := fun x hx => hW'.lt x (by simp [hx])
 refine (law Ds h1 W (PF W) args (fun β h => h) (hgk W hL) (by simpa using h2) ?_).mono ?_
 ·intro j x hj
  obtain ⟨v, g1, g2⟩ := h4 j x hj
  have : Au args j = v := by unfold Au; rw [show args[j]? = some v from by simpa using g1]; rfl
  rw [this]; exact g2
 ·rintro e W' ⟨v, G', rfl, hb, _, _, hr, _⟩
  have hvb : v = .bool true := by
   have h5 : Cw W' G'.S v (.val (.bool true)) := hr
   cases h5; rfl
  subst hvb
  refine ⟨_, rfl, ds, [], p ++ [], [], p, [], hW', ?_, ?_, ?_, hb.frame _, fun h => by cases h⟩
  ·rw [hs ds h3, hres]
   exact trodAll_mk1 (shut_bool htb true)
  ·rw [hs ds h3]
   exact Jw hl hb.toBelow hread hA hlt
  ·rw [hs ds h3, hv]
   rfl
end Go.Lift
namespace Go.Lift
open Go.RowKit Go.Shelf
def MU (n : Int) : Option ByteArray := if -9223372036854775808 ≤ n ∧ n ≤ 9223372036854775807 then some ⟨(Lib.itoa n).toArray⟩ else none
theorem UL {P : Program} {ρ : Ren} (L : Go.Proofs.LaysM.n171 P ρ) {g : Nat} (hg : P.globalNamed "internal/strconv.uint64pow10" = some g) {n : Int} {r : ByteArray} (h : MU n = some r) :
  Ar P (ρ.f 171) [.e (.one (.pure (.val (.int .i64 n))))] [] (.e (.one (.pure (.val (.string r))))) := by
 intro w S vs hS hgk hlen hrd
 have h0 : Cw w S (Au vs 0) (.val (.int .i64 n)) := hrd 0 _ rfl
 have hv : Au vs 0 = .int .i64 n := CW h0
 have hvs : vs = #[.int .i64 n] := by
  have h2 : vs.size = 1 := hlen
  apply Array.ext (by simp [h2])
  intro i h1 _
  match i, h1 with
  | 0, h1 => rw [← hv]; simp [Au, h1]
  | i + 1, h1 => omega
 unfold MU at h
 split at h
 ·rename_i hb
  cases h
  have ht : Lib.TabIs P w "internal/strconv.uint64pow10" .u64 Lib.pow10Tab := (hgk ("internal/strconv.uint64pow10", .u64, Td) (by simp [S3]) g hg).2
  rw [hvs]
  refine (Go.Proofs.Any.strconv_Itoa L n hb.1 hb.2 w ht).mono ?_
  rintro e w' ⟨rfl, k, os, rfl⟩
  refine ⟨_, G0 S, rfl, ⟨⟨rfl, rfl, rfl, by simp [Go.Sort.grow], fun i hi => ?_⟩, .of (by show w.drawn ≤ w.drawn + k; omega)⟩, fun _ h => h, fun _ h => .inl h, .val _ rfl, fun i x hi => by simp at hi, fun i β hi => by simp at hi, fun i l β hi => by simp at hi⟩
  show (w.heap ++ os)[i]? = _
  rw [uQ, if_pos hi]
 ·cases h
end Go.Lift
namespace Go.Lift
open Go.RowKit
variable {P : Program} {X : Gy}
end Go.Lift
namespace Go.Lift
open Go.RowKit
variable {P : Program} {X : Gy} {ops : Array Oper}
section run
variable {dr : Bool} {Q : St → Prop} {r i : Nat} {st : St} {log : List (Nat × B7)} {o : Oper} {gs : List (Operand × D)}
end run
end Go.Lift
namespace Go.Lift
open Go.RowKit Go.Shelf
end Go.Lift
namespace Go.Lift
open Go.RowKit Go.Shelf
section
variable {P : Program} {ρ : Ren} {α : Type}
end
end Go.Lift
namespace Go.Lift
open Go.RowKit Go.Shelf
variable {P : Program} {X : Gy} {ops : Array Oper}
theorem M3 {st : St} (s : Nat) (d0 d : D) (hs : st.env s = some d0) (hn : d.names = []) (h : ∀ w G v, FT P w G v d0 → FT P w G v d) : Fb P X st (St.put st (some s) (some d)) := by
 rintro a w ⟨G, hh⟩
 refine ⟨G, { hh with env := ?_, live := ?_, blk := hh.blk, at_ok := hh.at_ok, at_inj := hh.at_inj, liveB := hh.liveB, nlt := hh.nlt, lent := hh.lent }⟩
 ·intro t d' ht
  simp only [St.put] at ht
  split at ht
  ·rename_i e; cases ht; rw [e]
   exact h w G _ (hh.env s _ hs)
  ·exact hh.env t d' ht
 ·intro t d' ht b hb
  simp only [St.put] at ht
  split at ht
  ·cases ht; rw [hn] at hb; cases hb
  ·exact hh.live t d' ht b hb
theorem NQ {st : St} (s : Nat) (ts : List T) (hs : st.env s = some (.e (.one (.rop ts)))) : Fb P X st (St.put st (some s) (some (one (.rp (some ts))))) :=
 M3 s _ _ hs rfl fun w G v h => by
  obtain ⟨β, off, arr, el, fz, rfl, h1, h2, h3, h4⟩ : Ef P w G v (.rop ts) := h
  exact Cw.rp β off arr el fz ts h1 h2 h3 h4
theorem Sr {st : St} (s : Nat) (q : Option (List T)) (ts : List T) (hs : st.env s = some (one (.rp q))) (hq : q = some ts) : Fb P X st (St.put st (some s) (some (.e (.one (.rop ts))))) :=
 M3 s _ _ hs rfl fun w G v h => by
  subst hq
  have h : Cw w G.S v (.rp (some ts)) := h
  cases h with
  | rp β off arr el fz _ h1 h2 h3 h4 => exact (⟨β, off, arr, el, fz, rfl, h1, h2, h3, h4⟩ : Ef P w G _ (.rop ts))
theorem Oy {P : Program} {ρ : Ren} (L : Go.Proofs.LaysM.n173 P ρ) {g : Nat} (hg : P.globalNamed "internal/strconv.uint64pow10" = some g) {n : Int} {r : ByteArray} (h : MU n = some r) :
  Ar P (ρ.f 173) [.e (.one (.pure (.val (.int .i64 n)))), .e (.one (.pure (.val (.int .i64 10))))] [] (.e (.one (.pure (.val (.string r))))) := by
 intro w S vs hS hgk hlen hrd
 have h0 : Cw w S (Au vs 0) (.val (.int .i64 n)) := hrd 0 _ rfl
 have h1 : Cw w S (Au vs 1) (.val (.int .i64 10)) := hrd 1 _ rfl
 have hv : Au vs 0 = .int .i64 n := CW h0
 have hv1 : Au vs 1 = .int .i64 10 := CW h1
 have hvs : vs = #[.int .i64 n, .int .i64 10] := by
  have h2 : vs.size = 2 := hlen
  apply Array.ext (by simp [h2])
  intro i h1 _
  match i, h1 with
  | 0, h1 => rw [← hv]; simp [Au, h1]
  | 1, h1 => rw [← hv1]; simp [Au, h1]
  | i + 2, h1 => omega
 unfold MU at h
 split at h
 ·rename_i hb
  cases h
  have ht : Lib.TabIs P w "internal/strconv.uint64pow10" .u64 Lib.pow10Tab := (hgk ("internal/strconv.uint64pow10", .u64, Td) (by simp [S3]) g hg).2
  rw [hvs]
  refine (Go.Proofs.Any.strconv_FormatInt_10 L n hb.1 hb.2 w ht).mono ?_
  rintro e w' ⟨rfl, k, os, rfl⟩
  refine ⟨_, G0 S, rfl, ⟨⟨rfl, rfl, rfl, by simp [Go.Sort.grow], fun i hi => ?_⟩, .of (by show w.drawn ≤ w.drawn + k; omega)⟩, fun _ h => h, fun _ h => .inl h, .val _ rfl, fun i x hi => by simp at hi, fun i β hi => by simp at hi, fun i l β hi => by simp at hi⟩
  show (w.heap ++ os)[i]? = _
  rw [uQ, if_pos hi]
 ·cases h
end Go.Lift
namespace Go.Lift
open Option renaming bind_some → oS
open Go.RowKit Go.Shelf
variable {P : Program} {X : Gy} {ops : Array Oper} {dr : Bool} {Q : St → Prop} {r i : Nat} {st : St} {log : List (Nat × B7)} {gs : List (Operand × D)}
theorem OF {x : Operand} {s : Nat} {ts : List T} (hat : At st.env ops i X.n (.nilCheck x) s gs) (hx : opd st.env x = some (.e (.one (.rop ts))))
  (next : A7 P X ops dr Q r (i + 1) (B7.upd ⟨gs ++ [(x, .e (.one (.rop ts)))], [], some s, some (.e (.one (.rop ts))), [], []⟩ st) ((i, ⟨gs ++ [(x, .e (.one (.rop ts)))], [], some s, some (.e (.one (.rop ts))), [], []⟩) :: log)) : A7 P X ops dr Q (r + 1) i st log := by
 obtain ⟨o, ho, hop, hd, hn, hg, hgp⟩ := hat.out
 refine A7.step next ⟨Al.2 ⟨hgp, hx, trivial⟩, trivial, trivial⟩ (LR.value ho hg rfl hd.symm (C1 hd hn) ?_)
 intro G st a w hs hpre
 obtain ⟨hx, _⟩ := (Al.1 hpre.r).2
 obtain ⟨β, k, arr, el, fz, hv, h1⟩ : Ef P w G (a.eval x) (.rop ts) := hs.opd hx
 refine ⟨.pointer (some ⟨β, k, none⟩), w, G, ?_, hs, ?_⟩
 ·simp only [execOp, hop, hv]; rfl
 ·rintro d ⟨⟩
  exact ⟨⟨β, k, arr, el, fz, rfl, h1⟩, fun b hb => by cases hb⟩
def RQ (P : Program) (t n el : Nat) : Bool := match P.underlying t with | some (.array m e) => m == n && e == el | _ => false
theorem PV {t n el : Nat} (h : RQ P t n el = true) : P.underlying t = some (.array n el) := by
 unfold RQ at h
 split at h
 ·rename_i m e hu
  simp only [zC, beq_iff_eq] at h
  rw [hu, h.1, h.2]
 ·cases h
theorem RV {t n el e : Nat} {s : Nat} {z : Value} {zs : List Value} {cells : List C} {parts : Array (Nat × Operand)} (ps : List (Nat × Operand × E)) (hat : At st.env ops i X.n (.build t parts) s gs) (hps : parts = (ps.map fun p => (p.1, p.2.1)).toArray)
  (hx : D1 st.env (F7 ps)) (hz : Du P t = some z) (hzs : z.cells.toList = zs) (h1 : zs.all F1 = true) (ha : RQ P t n el = true) (he : Gl P el e = true) (hf : Jy (fun i => some (i * e, e)) (zs.map fun v => C.pure (T.of v)) (ps.map fun p => (p.1, p.2.2)) = some cells)
  (next : A7 P X ops dr Q r (i + 1) (B7.upd ⟨gs ++ F7 ps, [], some s, some (.e (.agg cells)), [], []⟩ st) ((i, ⟨gs ++ F7 ps, [], some s, some (.e (.agg cells)), [], []⟩) :: log)) : A7 P X ops dr Q (r + 1) i st log := by
 obtain ⟨o, ho, hop, hd, hn, hg, hgp⟩ := hat.out
 refine A7.step next ⟨Al.2 ⟨hgp, hx⟩, trivial, trivial⟩ (LR.value ho hg rfl hd.symm (C1 hd hn) ?_)
 intro G st a w hs hpre
 have hx := (Al.1 hpre.r).2
 subst hzs
 have hpr := Ic hs hx
 obtain ⟨arr', r1, r2, r3⟩ := KA (P := P) (w := w) (G := G) (fun i => some (i * e, e)) (ps.map fun p => (p.1, p.2.2)) (ps.map fun p => (p.1, a.eval p.2.1)) _ cells z.cells (by simp) (fun j c hj => Mg h1 j c hj) (by simp) (fun j p v hp hv => ⟨(hpr j p v hp hv).1, (hpr j p v hp hv).2.1⟩) hf
 refine ⟨.agg arr', w, G, ?_, hs, ?_⟩
 ·simp only [execOp, hop, hps, Ir]
  refine Ah (run_build w t _ arr' ?_) rfl
  unfold Du at hz
  cases hit : P.info? t with
  | none => rw [hit] at hz; cases hz
  | some it =>
   rw [hit] at hz
   simp only [oS] at hz
   unfold Gl at he
   cases hie : P.info? el with
   | none => rw [hie] at he; cases he
   | some ie =>
    rw [hie] at he
    have he' : ie.size = e := by simpa using he
    unfold Program.built
    rw [hit, PV ha]
    simp only [hz, hie, he']
    simpa using r1
 ·rintro d ⟨⟩
  refine ⟨⟨arr', rfl, r2, r3⟩, fun b hb => ?_⟩
  rcases Is _ hf hb with h | ⟨p, h2, h3⟩
  ·rw [Kl] at h; cases h
  ·obtain ⟨j, hj⟩ := zO.1 h2
   have hlt := AB hj
   simp only [zY] at hlt
   exact (hpr j p ((ps.map fun p => (p.1, a.eval p.2.1))[j]'(by simpa using hlt)) hj (by simp [hlt])).2.2 b h3
theorem Sp {x y : Operand} {s n el t : Nat} {ts : List T} {u : T} {k : IntKind} {m : Int} (hat : At st.env ops i X.n (.indexAddr t x y) s gs)
  (hx : opd st.env x = some (.e (.one (.rop ts)))) (hy : opd st.env y = some (vD (.int k m))) (ht : RQ P t n el = true) (hz : Gl P el 1 = true) (hl : ts.length = n) (h0 : 0 ≤ m) (hu : ts[m.toNat]? = some u)
  (next : A7 P X ops dr Q r (i + 1) (B7.upd ⟨gs ++ [(x, .e (.one (.rop ts))), (y, vD (.int k m))], [], some s, some (.e (.one (.rop [u]))), [], []⟩ st) ((i, ⟨gs ++ [(x, .e (.one (.rop ts))), (y, vD (.int k m))], [], some s, some (.e (.one (.rop [u]))), [], []⟩) :: log)) : A7 P X ops dr Q (r + 1) i st log := by
 obtain ⟨o, ho, hop, hd, hn, hg, hgp⟩ := hat.out
 refine A7.step next ⟨Al.2 ⟨hgp, hx, hy, trivial⟩, trivial, trivial⟩ (LR.value ho hg rfl hd.symm (C1 hd hn) ?_)
 intro G st a w hs hpre
 obtain ⟨hx, hy, _⟩ := (Al.1 hpre.r).2
 obtain ⟨β, off, arr, el', fz, hv, h1, h2, h3, h4⟩ : Ef P w G (a.eval x) (.rop ts) := hs.opd hx
 have hY : a.eval y = .int k m := CW (hs.opd hy : Cw w G.S (a.eval y) (.val _))
 have hlt := AB hu
 refine ⟨.pointer (some ⟨β, off + m.toNat * 1, none⟩), w, G, ?_, hs, ?_⟩
 ·simp only [execOp, hop, hv, hY]
  refine Ah (a := .pointer (some ⟨β, off + m.toNat * 1, none⟩)) (w1 := w) ?_ rfl
  unfold Instr.indexAt
  refine Ah (a := (k, m)) (w1 := w) rfl ?_
  refine Ah (AC (PV ht) w) ?_
  have hb : 0 ≤ m ∧ m < (n : Int) := ⟨h0, by omega⟩
  refine Ah (a := ⟨β, off, none⟩) (w1 := w) rfl ?_
  refine Ah (a := ((some ⟨β, off, none⟩ : Option Addr), n, el)) (w1 := w) rfl ?_
  refine Ah (AC (PV ht) w) ?_
  simp only [hb, and_self, if_true]
  refine Ah (DV hz w) ?_
  rw [Addr.add_mk]; rfl
 ·rintro d ⟨⟩
  refine ⟨⟨β, off + m.toNat * 1, arr, el', fz, rfl, h1, h2, by simp; omega, fun j u' hj => ?_⟩, fun b hb => by cases hb⟩
  cases j with
  | zero =>
   cases hj
   have := h4 _ u hu
   simpa using this
  | succ j => simp at hj
theorem PH {t : Nat} (h : KQ P t = true) : P.underlying t = some .string := by
 unfold KQ at h
 split at h
 ·assumption
 ·cases h
theorem Kw {x : Operand} {b : ByteArray} {s t : Nat} (hat : At st.env ops i X.n (.call ⟨.builtin .len, #[x], #[t]⟩) s gs)
  (hx : opd st.env x = some (vD (.string b))) (ht : KQ P t = true)
  (next : A7 P X ops dr Q r (i + 1) (B7.upd ⟨gs ++ [(x, vD (.string b))], [], some s, some (vD (.int .i64 (b.size : Int))), [], []⟩ st) ((i, ⟨gs ++ [(x, vD (.string b))], [], some s, some (vD (.int .i64 (b.size : Int))), [], []⟩) :: log)) : A7 P X ops dr Q (r + 1) i st log := by
 obtain ⟨o, ho, hop, hd, hn, hg, hgp⟩ := hat.out
 refine A7.step next ⟨Al.2 ⟨hgp, hx, trivial⟩, trivial, trivial⟩ (LR.value ho hg rfl hd.symm (C1 hd hn) ?_)
 intro G st a w hs hpre
 obtain ⟨hx, _⟩ := (Al.1 hpre.r).2
 have hX : a.eval x = .string b := CW (hs.opd hx : Cw w G.S (a.eval x) (.val _))
 refine ⟨.int .i64 b.size, w, G, ?_, hs, ?_⟩
 ·simp only [execOp, hop]
  refine Gw fun cs => ?_
  simp only [xR, zZ, uG, builtin, hX]
  refine Ah (a := .int .i64 b.size) (w1 := w) ?_ rfl
  unfold Builtin.len_
  refine Ah (AC (PH ht) w) ?_
  rfl
 ·rintro d ⟨⟩
  exact ⟨.val _ rfl, fun b hb => by cases hb⟩
theorem KF {G : Gh} {st : St} {a : Act} {w : World} (hs : CE P X G st a w) {lo hi : Option Operand} {l h len : Nat} {rl rh : List (Operand × D)} (hlo : Pn lo 0 l rl) (hhi : Pn hi len h rh) (h1 : D1 st.env rl) (h2 : D1 st.env rh) (hlh : l ≤ h) (hhc : h ≤ len) :
  (Instr.sliceBounds false len len (lo.map a.eval) (hi.map a.eval) none).run P w = .ok (l, h, len) w := by
 unfold Instr.sliceBounds
 refine Ah (a := len) (w1 := w) rfl ?_
 have low : ∀ (h : Nat), l ≤ h → ((match lo.map a.eval with
      | some v => do
       let l ← Instr.sliceBound v h (if (none : Option Value).isSome = true then BoundsCode.slice3C else BoundsCode.sliceB)
       pure (l, h, len)
      | none => do
       let l ← pure 0
       pure (l, h, len) : Sem (Nat × Nat × Nat))).run P w = .ok (l, h, len) w := fun h hlh => by
  cases hlo with
  | none => rfl
  | some y d k v hv =>
   have : a.eval y = .int k v := CW (hs.opd h1.1 : Cw w G.S (a.eval y) (.val _))
   simp only [yS, this]
   exact Ah (FY hv hlh w) rfl
 cases hhi with
 | none => exact Ah (w1 := w) rfl (low _ hlh)
 | some y d k v hv =>
  have : a.eval y = .int k v := CW (hs.opd h2.1 : Cw w G.S (a.eval y) (.val _))
  simp only [yS, this]
  exact Ah (FY hv hhc w) (low _ hlh)
theorem OJ {x : Operand} {t s l h : Nat} {lo hi : Option Operand} {rl rh : List (Operand × D)} {b : ByteArray} (hat : At st.env ops i X.n (.slice t x lo hi none) s gs)
  (hx : opd st.env x = some (vD (.string b))) (ht : KQ P t = true) (hlo : Pn lo 0 l rl) (hhi : Pn hi b.size h rh) (h1 : D1 st.env rl) (h2 : D1 st.env rh) (hlh : l ≤ h) (hhl : h ≤ b.size)
  (next : A7 P X ops dr Q r (i + 1) (B7.upd ⟨gs ++ ((x, vD (.string b)) :: (rl ++ rh)), [], some s, some (vD (.string (b.extract l h))), [], []⟩ st) ((i, ⟨gs ++ ((x, vD (.string b)) :: (rl ++ rh)), [], some s, some (vD (.string (b.extract l h))), [], []⟩) :: log)) : A7 P X ops dr Q (r + 1) i st log := by
 obtain ⟨o, ho, hop, hd, hn, hg, hgp⟩ := hat.out
 refine A7.step next ⟨Al.2 ⟨hgp, hx, Al.2 ⟨h1, h2⟩⟩, trivial, trivial⟩ (LR.value ho hg rfl hd.symm (C1 hd hn) ?_)
 intro G st a w hs hpre
 obtain ⟨hx, h12⟩ := (Al.1 hpre.r).2
 obtain ⟨h1, h2⟩ := Al.1 h12
 have hX : a.eval x = .string b := CW (hs.opd hx : Cw w G.S (a.eval x) (.val _))
 refine ⟨.string (b.extract l h), w, G, ?_, hs, ?_⟩
 ·simp only [execOp, hop, hX]
  refine Ah (a := .string (b.extract l h)) (w1 := w) ?_ rfl
  unfold Instr.sliceAt
  refine Ah (AC (PH ht) w) ?_
  unfold Instr.slice
  refine Ah (AC (PH ht) w) ?_
  refine Ah (KF hs hlo hhi h1 h2 hlh hhl) ?_
  rfl
 ·rintro d ⟨⟩
  exact ⟨.val _ rfl, fun b hb => by cases hb⟩
end Go.Lift
namespace Go.Lift
open Go.RowKit Go.Proofs
theorem QB {w : World} {b : Nat} {o : Obj} (h : w.heap[b]? = some o) : b < w.heap.size := (uF.1 h).1
theorem Rq {T e : TypeId} {B b : Nat} {bs : List Value} {w w' : World} (h : Lib.IsBuilder T e B b bs w) (hb : Below w.heap.size w w') : Lib.IsBuilder T e B b bs w' := by
 have key : ∀ p, Lib.BuilderAt T e B b p bs w → Lib.BuilderAt T e B b p bs w' := by
  rintro p ⟨h1, v, h2, ⟨h3, h4⟩, h5⟩
  refine ⟨h1, v, by rw [hb.block b (QB h2)]; exact h2, ⟨h3, ?_⟩, h5⟩
  rcases h4 with h4 | ⟨g, cap, cur, k1, k2, k3, k4⟩
  ·exact .inl h4
  ·exact .inr ⟨g, cap, cur, k1, k2, by rw [hb.block g (QB k3)]; exact k3, k4⟩
 exact h.imp (key _) (key _)
end Go.Lift
namespace Go.Lift
def As (n : Int) : List T := [.val (.int .i64 n)]
def Dm (n : Int) : List T := [.val (.int .u8 n)]
abbrev F9 (n : Int) : T := .val (.int .i64 n)
abbrev tB (b : Bool) : T := .val (.bool b)
def eB (b : Bool) : List T := [.val (.bool b)]
def eS (s : ByteArray) : List T := [.val (.string s)]
def Lq {α : Type} (f : α → List T) (xs : List α) : List T := [.sl (xs.map f)]
theorem Se : Vf As := ⟨by intro x y h; simpa [As] using h⟩
theorem W4 : Vf eB := ⟨by intro x y h; simpa [eB] using h⟩
theorem Wc {α : Type} {f : α → List T} (h : Vf f) : Vf (Lq f) := ⟨by intro x y hx; simp only [Lq, List.cons.injEq, T.sl.injEq, and_true] at hx; exact Qx h.inj _ _ hx⟩
structure AK where
 fa : Int
 fj : Int
 fA : Int
 fN : Bool
 fE : List (List Bool)
 fy : List (List Bool)
def BD (x : AK) : List T := [.val (.int .i64 x.fa), .val (.int .i64 x.fj), .val (.int .i64 x.fA), .val (.bool x.fN), .sl (x.fE.map (Lq eB)), .sl (x.fy.map (Lq eB))]
structure Aa where
 fb : List Int
 fk : List Int
 fp : List Int
 fc : List AK
def OD (x : Aa) : List T := [.sl (x.fb.map As), .sl (x.fk.map As), .sl (x.fp.map As), .sl (x.fc.map BD)]
structure Am where
 fa : Int
 fm : Int
 fq : Int
def AP (x : Am) : List T := [.val (.int .i64 x.fa), .val (.int .i64 x.fm), .val (.int .i64 x.fq)]
theorem P5 : Vf AP := ⟨by
 rintro ⟨a1, a2, a3⟩ ⟨b1, b2, b3⟩ h
 simp only [AP, List.cons.injEq, T.val.injEq, Value.int.injEq, and_true, true_and] at h
 obtain ⟨h1, h2, h3⟩ := h
 subst h1
 subst h2
 subst h3
 rfl⟩
structure Ac where
 fi : Int
 fa : Int
 fv : Int
 fw : Int
 fC : Int
 fm : Int
 fu : Int
 fD : Int
 ft : Int
 fq : Int
 fM : Int
def AG (x : Ac) : List T := [.val (.int .i64 x.fi), .val (.int .i64 x.fa), .val (.int .i64 x.fv), .val (.int .i64 x.fw), .val (.int .i64 x.fC), .val (.int .i64 x.fm), .val (.int .i64 x.fu), .val (.int .i64 x.fD), .val (.int .i64 x.ft), .val (.int .i64 x.fq), .val (.int .i64 x.fM)]
structure BU where
 fd : Aa
 fQ : List Int
 fr : List Am
 fO : List Ac
def Lc (x : BU) : List T := [.sl (x.fd.fb.map As), .sl (x.fd.fk.map As), .sl (x.fd.fp.map As), .sl (x.fd.fc.map BD), .sl (x.fQ.map As), .sl (x.fr.map AP), .sl (x.fO.map AG)]
structure Ae where
 fh : List Int
 ff : List Int
 fg : List Int
def ES (x : Ae) : List T := [.sl (x.fh.map As), .sl (x.ff.map As), .sl (x.fg.map Dm)]
structure Ai where
 fd : Aa
 fr : List Am
 fi : Int
 fB : Int
 fe : Ae
def EW (x : Ai) : List T := [.sl (x.fd.fb.map As), .sl (x.fd.fk.map As), .sl (x.fd.fp.map As), .sl (x.fd.fc.map BD), .sl (x.fr.map AP), .val (.int .i64 x.fi), .val (.int .i64 x.fB), .sl (x.fe.fh.map As), .sl (x.fe.ff.map As), .sl (x.fe.fg.map Dm)]
structure A8 where
 fF : Int
 fG : Int
 fH : Bool
 fI : List (Int × Int)
structure AL where
 fi : Int
 fK : Bool
 fJ : Bool
 fe : Ae
open IntKind renaming wrap → wI
def Da (_ : Nat) (p0 : Int) (p1 : Int) : Option Bool :=
 AZ (fun (v1 : Bool) =>
  some v1)
 fun j1 =>
 AJ ((decide (0 ≤ p0)))
  (j1 (decide (p0 < p1)))
  (j1 false)
def Fg (_ : Nat) (p0 : Int) (p1 : Bool) : Option Bool :=
 AZ (fun (v1 : Bool) =>
  some v1)
 fun j1 =>
 AJ ((p0 == 1))
  (j1 true)
  (AJ ((p0 == 2))
   (j1 true)
   (AJ ((p0 == 3))
    (j1 (!p1))
    (AJ ((p0 == 4))
     (j1 (!p1))
     (j1 false))))
def C3 (_ : Nat) (p0 : List Bool) (p1 : Int) : Option Bool :=
 some (((p0.length : Int) != p1))
def A6 (N : Nat) (p0 : List (List Bool)) (p1 : (List Bool) → Option Bool) (j1 : Unit → Option Int) : Nat → Int → Option Int
 | 0, _ => none
 | n1 + 1, v1 =>
  AJ ((decide (v1 < (p0.length : Int))))
   ((Bk p0 v1).bind fun v4 =>
   (p1 v4).bind fun v5 =>
   AJ v5
    (some v1)
    (A6 N p0 p1 j1 n1 (wI .i64 (v1 + 1))))
   (j1 ())
def Cv (N : Nat) (p0 : List (List Bool)) (p1 : (List Bool) → Option Bool) : Option Int :=
 A6 N p0 p1 (fun (_ : Unit) =>
  some ((-1))) N 0
def Ca (N : Nat) (p0 : List (List Bool)) (p1 : (List Bool) → Option Bool) : Option Bool :=
 (Cv N p0 p1).bind fun v1 =>
 some ((decide (0 ≤ v1)))
def D3 (N : Nat) (p0 : List (List Bool)) (p1 : Int) (p2 : Int) : Option Bool :=
 AZ (fun (v1 : Bool) =>
  some v1)
 fun j1 =>
 AJ (((p0.length : Int) == p1))
  ((Ca N p0 ((fun (x : List Bool) => C3 N x p2))).bind fun v3 =>
  j1 (!v3))
  (j1 false)
def Cj (N : Nat) (p1 : AK) (j19 : Unit → Option Int) : Nat → Int → Option Int
 | 0, _ => none
 | n19 + 1, v19 =>
  AJ ((decide (v19 < (p1.fy.length : Int))))
   ((Bk p1.fy v19).bind fun v22 =>
   (Bk v22 v19).bind fun v23 =>
   AJ ((!v23))
    (some 1)
    (Cj N p1 j19 n19 (wI .i64 (v19 + 1))))
   (j19 ())
def E2 (N : Nat) (p0 : Aa) (p1 : AK) : Option Int :=
 (Fg N p1.fa p1.fN).bind fun v1 =>
 AJ ((!v1))
  (some 1)
  (AZ (fun (v3 : Bool) =>
   AJ v3
    (some 4)
    ((Bk p0.fb p1.fj).bind fun v8 =>
    AZ (fun (v9 : Bool) =>
     AJ v9
      (some 6)
      (Cj N p1 (fun (_ : Unit) =>
       some 0) N 0))
    fun j9 =>
    (Bk p0.fb p1.fA).bind fun v10 =>
    (D3 N p1.fE v8 v10).bind fun v11 =>
    AJ ((!v11))
     (j9 true)
     (AJ ((p1.fa == 4))
      ((D3 N p1.fy v8 v8).bind fun v14 =>
      AJ ((!v14))
       (j9 true)
       (AJ ((!((p1.fa == 4))))
        (j9 (decide (0 < (p1.fy.length : Int))))
        (j9 false)))
      (AJ ((!((p1.fa == 4))))
       (j9 (decide (0 < (p1.fy.length : Int))))
       (j9 false)))))
  fun j3 =>
  (Da N p1.fj ((p0.fb.length : Int))).bind fun v4 =>
  AJ ((!v4))
   (j3 true)
   ((Da N p1.fA ((p0.fb.length : Int))).bind fun v6 =>
   j3 (!v6)))
def Bs (N : Nat) (p0 : Aa) (j7 : Unit → Option Int) : Nat → Int → Option Int
 | 0, _ => none
 | n7 + 1, v7 =>
  AJ ((decide (v7 < (p0.fb.length : Int))))
   ((Bk p0.fb v7).bind fun v10 =>
   AZ (fun (v11 : Bool) =>
    AJ v11
     (some 7)
     (Bs N p0 j7 n7 (wI .i64 (v7 + 1))))
   fun j11 =>
   AJ ((decide (v10 < 1)))
    (j11 true)
    (AJ ((decide (6 < v10)))
     (j11 true)
     ((Bk p0.fk v7).bind fun v14 =>
     (Da N v14 v10).bind fun v15 =>
     AJ ((!v15))
      (j11 true)
      ((Bk p0.fp v7).bind fun v17 =>
      (Da N v17 v10).bind fun v18 =>
      j11 (!v18)))))
   (j7 ())
def Bm (N : Nat) (p0 : Aa) (j20 : Unit → Option Int) : Nat → Int → Option Int
 | 0, _ => none
 | n20 + 1, v20 =>
  AJ ((decide (v20 < (p0.fc.length : Int))))
   ((Bk p0.fc v20).bind fun v23 =>
   (E2 N p0 v23).bind fun v24 =>
   AJ ((v24 != 0))
    (some v24)
    (Bm N p0 j20 n20 (wI .i64 (v20 + 1))))
   (j20 ())
def BS (N : Nat) (p0 : Aa) : Option Int :=
 AZ (fun (v1 : Bool) =>
  AJ v1
   (some 3)
   (AZ (fun (v4 : Bool) =>
    AJ v4
     (some 6)
     (Bs N p0 (fun (_ : Unit) =>
      Bm N p0 (fun (_ : Unit) =>
       some 0) N 0) N 0))
   fun j4 =>
   AJ (((p0.fk.length : Int) != (p0.fb.length : Int)))
    (j4 true)
    (j4 ((p0.fp.length : Int) != (p0.fb.length : Int)))))
 fun j1 =>
 AJ ((decide (6 < (p0.fb.length : Int))))
  (j1 true)
  (j1 (decide (12 < (p0.fc.length : Int))))
def A3 (N : Nat) (p0 : List Int) (p1 : Int → Option Bool) (j1 : Unit → Option Int) : Nat → Int → Option Int
 | 0, _ => none
 | n1 + 1, v1 =>
  AJ ((decide (v1 < (p0.length : Int))))
   ((Bk p0 v1).bind fun v4 =>
   (p1 v4).bind fun v5 =>
   AJ v5
    (some v1)
    (A3 N p0 p1 j1 n1 (wI .i64 (v1 + 1))))
   (j1 ())
def CV (N : Nat) (p0 : List Int) (p1 : Int → Option Bool) : Option Int :=
 A3 N p0 p1 (fun (_ : Unit) =>
  some ((-1))) N 0
def BW (N : Nat) (p0 : List Int) (p1 : Int → Option Bool) : Option Bool :=
 (CV N p0 p1).bind fun v1 =>
 some ((decide (0 ≤ v1)))
def DZ (_ : Nat) (p0 : Int) : Option Bool :=
 AZ (fun (v1 : Bool) =>
  some v1)
 fun j1 =>
 AJ ((decide (p0 < 1)))
  (j1 true)
  (j1 (decide (4 < p0)))
def Ep (N : Nat) (p0 : Aa) (p1 : List Int) : Option Int :=
 AJ (((p1.length : Int) != (p0.fb.length : Int)))
  (some 6)
  ((BW N p1 ((fun (x : Int) => DZ N x))).bind fun v2 =>
  AJ v2
   (some 7)
   (some 0))
def AO (N : Nat) (p0 : List Am) (p1 : Am → Option Bool) (j1 : Unit → Option Int) : Nat → Int → Option Int
 | 0, _ => none
 | n1 + 1, v1 =>
  AJ ((decide (v1 < (p0.length : Int))))
   ((Bk p0 v1).bind fun v4 =>
   (p1 v4).bind fun v5 =>
   AJ v5
    (some v1)
    (AO N p0 p1 j1 n1 (wI .i64 (v1 + 1))))
   (j1 ())
def Bl (N : Nat) (p0 : List Am) (p1 : Am → Option Bool) : Option Int :=
 AO N p0 p1 (fun (_ : Unit) =>
  some ((-1))) N 0
def Ba (N : Nat) (p0 : List Am) (p1 : Am → Option Bool) : Option Bool :=
 (Bl N p0 p1).bind fun v1 =>
 some ((decide (0 ≤ v1)))
def DD (_ : Nat) (p0 : Am) : Option Bool :=
 some ((p0.fa == 4))
def BY (_ : Nat) (p0 : List Int) : Option ((List Int)) :=
 (E7 ((([] : List Int)).length + p0.length ≤ Hn)).bind fun _ =>
 some ((([] : List Int)) ++ p0)
def Fu (_ : Nat) (p0 : Int) (p1 : Int) : Option (Int × Int) :=
 some ((wI .u32 ((FG .u64 ((wI .u64 ((wI .u64 p0) * (wI .u64 p1)))) 32))), (wI .u32 ((wI .u64 ((wI .u64 p0) * (wI .u64 p1))))))
def Fy (_ : Nat) (p0 : Int) (p1 : Int) : Option (Int × Int) :=
 some ((wI .u64 ((wI .u64 ((wI .u64 ((FG .u64 p0 32) * (FG .u64 p1 32))) + (FG .u64 ((wI .u64 ((wI .u64 ((FG .u64 p0 32) * (Ft .u64 p1 4294967295))) + (FG .u64 ((wI .u64 ((Ft .u64 p0 4294967295) * (Ft .u64 p1 4294967295)))) 32)))) 32))) + (FG .u64 ((wI .u64 ((Ft .u64 ((wI .u64 ((wI .u64 ((FG .u64 p0 32) * (Ft .u64 p1 4294967295))) + (FG .u64 ((wI .u64 ((Ft .u64 p0 4294967295) * (Ft .u64 p1 4294967295)))) 32)))) 4294967295) + (wI .u64 ((Ft .u64 p0 4294967295) * (FG .u64 p1 32)))))) 32))), (wI .u64 (p0 * p1)))
def Gf (N : Nat) (p0 : Int) (p1 : Int) : Option (Int × Int) :=
 AJ false
  ((Fu N ((wI .u32 p0)) ((wI .u32 p1))).bind fun v2 =>
  some ((wI .u64 v2.1), (wI .u64 v2.2)))
  ((Fy N p0 p1).bind fun v3 =>
  some (v3.1, v3.2))
def CU (N : Nat) (j9 : ((List Int)) → Option ((List Int))) : Nat → ((List Int) × Int) → Option ((List Int))
 | 0, _ => none
 | n9 + 1, v9 =>
  AJ ((decide (v9.2 < (v9.1.length : Int))))
   ((E7 ((0 : Int) ≤ v9.2 ∧ (v9.2).toNat ≤ v9.1.length ∧ v9.1.length ≤ v9.1.length)).bind fun _ =>
   (E7 ((0 : Int) ≤ v9.2 ∧ 0 ≤ (v9.2).toNat ∧ (v9.2).toNat ≤ v9.1.length)).bind fun _ =>
   CU N j9 n9 (Oh v9.1 ((v9.2).toNat) ((((v9.1.drop 0).take ((v9.2).toNat))).take (yJ (((v9.1.drop 0).take ((v9.2).toNat))).length ((v9.1.length - (v9.2).toNat)))), (wI .i64 (v9.2 + (((yJ (((v9.1.drop 0).take ((v9.2).toNat))).length ((v9.1.length - (v9.2).toNat))) : Nat) : Int)))))
   (j9 v9.1)
def Dl (N : Nat) (p0 : List Int) (p1 : Int) : Option ((List Int)) :=
 AZ (fun (_ : Unit) =>
  (Gf N ((wI .u64 ((p0.length : Int)))) ((wI .u64 p1))).bind fun v3 =>
  AZ (fun (_ : Unit) =>
   (E7 ((0 : Int) ≤ (wI .i64 v3.2) ∧ (wI .i64 v3.2) ≤ (wI .i64 v3.2) ∧ (wI .i64 v3.2) ≤ (Hn : Int))).bind fun _ =>
   CU N (fun (v10 : (List Int)) =>
    some v10) N (Oh (zJ ((wI .i64 v3.2)).toNat ((0 : Int))) 0 (p0.take (yJ p0.length ((zJ ((wI .i64 v3.2)).toNat ((0 : Int))).length))), (((yJ p0.length ((zJ ((wI .i64 v3.2)).toNat ((0 : Int))).length)) : Nat) : Int)))
  fun j4 =>
  AZ (fun (v5 : Bool) =>
   AJ v5
    (none)
    (j4 ()))
  fun j5 =>
  AJ ((decide (0 < v3.1)))
   (j5 true)
   (j5 (decide (9223372036854775807 < v3.2))))
 fun j1 =>
 AJ ((decide (p1 < 0)))
  (none)
  (j1 ())
def EG (_ : Nat) (p0 : AK) : Option Bool :=
 AZ (fun (v1 : Bool) =>
  some v1)
 fun j1 =>
 AJ ((p0.fa == 3))
  (j1 true)
  (j1 (p0.fa == 4))
def C7 (N : Nat) (p0 : Aa) (j6 : ((List Int)) → Option (Ae × Int)) : Nat → ((List Int) × Int) → Option (Ae × Int)
 | 0, _ => none
 | n6 + 1, v6 =>
  AJ ((decide (v6.2 < (p0.fc.length : Int))))
   (AZ (fun (v9 : (List Int)) =>
    C7 N p0 j6 n6 (v9, (wI .i64 (v6.2 + 1))))
   fun j9 =>
   (Bk p0.fc v6.2).bind fun v10 =>
   (EG N v10).bind fun v11 =>
   AJ v11
    ((Bk p0.fk v10.fj).bind fun v13 =>
    (E7 (0 ≤ v13)).bind fun _ =>
    (Bk v6.1 v6.2).bind fun _ =>
    j9 (v6.1.set ((v6.2).toNat) ((DE .u8 1 v13))))
    (j9 v6.1))
   (j6 v6.1)
def FV (N : Nat) (p0 : Aa) : Option (Ae × Int) :=
 (BS N p0).bind fun v1 =>
 AJ ((v1 != 0))
  (some ((Ae.mk (([] : List Int)) (([] : List Int)) (([] : List Int))), v1))
  ((BY N p0.fk).bind fun v3 =>
  (Dl N (([(-1)] : List Int)) ((p0.fk.length : Int))).bind fun v4 =>
  (E7 ((0 : Int) ≤ (p0.fc.length : Int) ∧ (p0.fc.length : Int) ≤ (p0.fc.length : Int) ∧ (p0.fc.length : Int) ≤ (Hn : Int))).bind fun _ =>
  C7 N p0 (fun (v7 : (List Int)) =>
   some ((Ae.mk v3 v4 v7), 0)) N (zJ ((p0.fc.length : Int)).toNat ((0 : Int)), 0))
def E1 (_ : Nat) (p0 : Ae) (p1 : Int) : Option Int :=
 (Bk p0.fh p1).bind fun v1 =>
 (E7 (0 ≤ v1)).bind fun _ =>
 AZ (fun (v3 : Int) =>
  some v3)
 fun j3 =>
 (Bk p0.ff p1).bind fun v4 =>
 AJ ((decide (0 ≤ v4)))
  ((Bk p0.ff p1).bind fun v6 =>
  (E7 (0 ≤ v6)).bind fun _ =>
  j3 (Le .u8 ((DE .u8 1 v1)) ((DE .u8 1 v6))))
  (j3 (DE .u8 1 v1))
def C8 (N : Nat) (p0 : Aa) (p1 : Ae) (j7 : Unit → Option Int) : Nat → Int → Option Int
 | 0, _ => none
 | n7 + 1, v7 =>
  AJ ((decide (v7 < (p0.fb.length : Int))))
   ((Bk p0.fb v7).bind fun v10 =>
   AZ (fun (v11 : Bool) =>
    AJ v11
     (some 7)
     ((Bk p1.fh v7).bind fun v20 =>
     (Bk p1.ff v7).bind fun v21 =>
     AJ ((v20 == v21))
      (some 1)
      (C8 N p0 p1 j7 n7 (wI .i64 (v7 + 1)))))
   fun j11 =>
   (Bk p1.fh v7).bind fun v12 =>
   AJ ((decide (v12 < 0)))
    (j11 true)
    ((Bk p1.fh v7).bind fun v14 =>
    AJ ((decide (v10 ≤ v14)))
     (j11 true)
     ((Bk p1.ff v7).bind fun v16 =>
     AJ ((decide (v16 < (-1))))
      (j11 true)
      ((Bk p1.ff v7).bind fun v18 =>
      j11 (decide (v10 ≤ v18))))))
   (j7 ())
def CS (N : Nat) (p0 : Aa) (p1 : Ae) (j23 : Unit → Option Int) : Nat → Int → Option Int
 | 0, _ => none
 | n23 + 1, v23 =>
  AJ ((decide (v23 < (p0.fc.length : Int))))
   ((Bk p0.fc v23).bind fun v26 =>
   AZ (fun (v27 : Int × Int) =>
    AZ (fun (v33 : Bool) =>
     AJ v33
      (some 1)
      (CS N p0 p1 j23 n23 (wI .i64 (v23 + 1))))
    fun j33 =>
    (Bk p1.fg v23).bind fun v34 =>
    AJ (((Cr .u8 v27.1 v34) != 0))
     (j33 true)
     ((Bk p1.fg v23).bind fun v36 =>
     j33 ((Cr .u8 v36 v27.2) != 0)))
   fun j27 =>
   (EG N v26).bind fun v28 =>
   AJ v28
    ((E1 N p1 v26.fj).bind fun v30 =>
    (Bk p0.fb v26.fj).bind fun v31 =>
    (E7 (0 ≤ v31)).bind fun _ =>
    j27 (v30, (wI .u8 ((DE .u8 1 v31) - 1))))
    (j27 (0, 0)))
   (j23 ())
def E8 (N : Nat) (p0 : Aa) (p1 : Ae) : Option Int :=
 (BS N p0).bind fun v1 =>
 AJ ((v1 != 0))
  (some v1)
  (AZ (fun (v3 : Bool) =>
   AJ v3
    (some 6)
    (C8 N p0 p1 (fun (_ : Unit) =>
     CS N p0 p1 (fun (_ : Unit) =>
      some 0) N 0) N 0))
  fun j3 =>
  AJ (((p1.fh.length : Int) != (p0.fb.length : Int)))
   (j3 true)
   (AJ (((p1.ff.length : Int) != (p0.fb.length : Int)))
    (j3 true)
    (j3 ((p1.fg.length : Int) != (p0.fc.length : Int)))))
def BR (_ : Nat) (p0 : List Int) : Option ((List Int)) :=
 (E7 ((([] : List Int)).length + p0.length ≤ Hn)).bind fun _ =>
 some ((([] : List Int)) ++ p0)
def Eo (N : Nat) (p0 : Ae) : Option Ae :=
 (BY N p0.fh).bind fun v1 =>
 (BY N p0.ff).bind fun v2 =>
 (BR N p0.fg).bind fun v3 =>
 some ((Ae.mk v1 v2 v3))
def Ff (_ : Nat) (p0 : Am) : Option Bool :=
 AZ (fun (v1 : Bool) =>
  AJ v1
   (some false)
   (AZ (fun (v5 : Bool) =>
    some v5)
   fun j5 =>
   AJ ((p0.fa == 1))
    (j5 true)
    (j5 (p0.fq == 0))))
 fun j1 =>
 AJ ((decide ((RZ p0.fm p0.fq) < 0)))
  (j1 true)
  (AJ ((decide (p0.fa < 1)))
   (j1 true)
   (j1 (decide (4 < p0.fa))))
def E0 (_ : Nat) (p0 : Aa) (p1 : Am) : Option Bool :=
 AJ ((p1.fa == 3))
  (some ((decide (p1.fm < (p0.fc.length : Int)))))
  (AZ (fun (v2 : Bool) =>
   some v2)
  fun j2 =>
  AJ ((decide (p1.fm < (p0.fb.length : Int))))
   (AJ ((p1.fa != 1))
    (j2 true)
    ((Bk p0.fb p1.fm).bind fun v5 =>
    j2 (decide (p1.fq < v5))))
   (j2 false))
def Em (_ : Nat) (p0 : AK) : Option Bool :=
 AZ (fun (v1 : Bool) =>
  some v1)
 fun j1 =>
 AJ ((p0.fa == 3))
  (j1 true)
  (j1 (p0.fa == 4))
def CO (N : Nat) (p0 : Aa) (p2 : Am) (j7 : ((List Int)) → Option (Bool × (List Int) × (List Int))) : Nat → ((List Int) × Int) → Option (Bool × (List Int) × (List Int))
 | 0, _ => none
 | n7 + 1, v7 =>
  AJ ((decide (v7.2 < (p0.fc.length : Int))))
   (AZ (fun (v10 : (List Int)) =>
    CO N p0 p2 j7 n7 (v10, (wI .i64 (v7.2 + 1))))
   fun j10 =>
   (Bk p0.fc v7.2).bind fun v11 =>
   AZ (fun (v12 : Bool) =>
    AJ v12
     ((Bk v7.1 v7.2).bind fun v16 =>
     (E7 (0 ≤ p2.fq)).bind fun _ =>
     (Bk v7.1 v7.2).bind fun _ =>
     j10 (v7.1.set ((v7.2).toNat) ((Le .u8 v16 ((DE .u8 1 p2.fq))))))
     (j10 v7.1))
   fun j12 =>
   AJ ((v11.fj == p2.fm))
    ((Em N v11).bind fun v14 =>
    j12 v14)
    (j12 false))
   (j7 v7.1)
def Gq (N : Nat) (p0 : Aa) (p1 : Ae) (p2 : Am) : Option (Bool × (List Int) × (List Int)) :=
 AZ (fun (v1 : Bool) =>
  AJ v1
   (some (false, p1.ff, p1.fg))
   ((Bk p1.ff p2.fm).bind fun _ =>
   CO N p0 p2 (fun (v8 : (List Int)) =>
    some (true, p1.ff.set ((p2.fm).toNat) p2.fq, v8)) N (p1.fg, 0)))
 fun j1 =>
 (Bk p1.ff p2.fm).bind fun v2 =>
 AJ ((decide (0 ≤ v2)))
  (j1 true)
  ((Bk p1.fh p2.fm).bind fun v4 =>
  j1 (v4 == p2.fq))
def EA (_ : Nat) (p0 : Ae) (p1 : Int) : Option Int :=
 (Bk p0.fh p1).bind fun v1 =>
 (E7 (0 ≤ v1)).bind fun _ =>
 AZ (fun (v3 : Int) =>
  some v3)
 fun j3 =>
 (Bk p0.ff p1).bind fun v4 =>
 AJ ((decide (0 ≤ v4)))
  ((Bk p0.ff p1).bind fun v6 =>
  (E7 (0 ≤ v6)).bind fun _ =>
  j3 (Le .u8 ((DE .u8 1 v1)) ((DE .u8 1 v6))))
  (j3 (DE .u8 1 v1))
def Cb (_ : Nat) (p0 : Int) : Option Int :=
 (Tw ((⟨⟨(List.append (List.append [8, 0, 1, 0, 2, 0, 1, 0, 3, 0, 1, 0, 2, 0, 1, 0, 4, 0, 1, 0, 2, 0, 1, 0, 3, 0, 1, 0, 2, 0, 1, 0, 5, 0, 1, 0, 2, 0, 1, 0, 3, 0, 1, 0, 2, 0, 1, 0, 4, 0, 1, 0, 2, 0, 1, 0, 3, 0, 1, 0, 2, 0, 1, 0] [6, 0, 1, 0, 2, 0, 1, 0, 3, 0, 1, 0, 2, 0, 1, 0, 4, 0, 1, 0, 2, 0, 1, 0, 3, 0, 1, 0, 2, 0, 1, 0, 5, 0, 1, 0, 2, 0, 1, 0, 3, 0, 1, 0, 2, 0, 1, 0, 4, 0, 1, 0, 2, 0, 1, 0, 3, 0, 1, 0, 2, 0, 1, 0]) (List.append [7, 0, 1, 0, 2, 0, 1, 0, 3, 0, 1, 0, 2, 0, 1, 0, 4, 0, 1, 0, 2, 0, 1, 0, 3, 0, 1, 0, 2, 0, 1, 0, 5, 0, 1, 0, 2, 0, 1, 0, 3, 0, 1, 0, 2, 0, 1, 0, 4, 0, 1, 0, 2, 0, 1, 0, 3, 0, 1, 0, 2, 0, 1, 0] [6, 0, 1, 0, 2, 0, 1, 0, 3, 0, 1, 0, 2, 0, 1, 0, 4, 0, 1, 0, 2, 0, 1, 0, 3, 0, 1, 0, 2, 0, 1, 0, 5, 0, 1, 0, 2, 0, 1, 0, 3, 0, 1, 0, 2, 0, 1, 0, 4, 0, 1, 0, 2, 0, 1, 0, 3, 0, 1, 0, 2, 0, 1, 0]))⟩⟩ : ByteArray)) p0).bind fun v1 =>
 some ((wI .i64 v1))
def CD (N : Nat) (p0 : AK) (p2 : Int) (j1 : Unit → Option Bool) : Nat → Int → Option Bool
 | 0, _ => none
 | n1 + 1, v1 =>
  AJ ((v1 != 0))
   ((Cb N v1).bind fun v4 =>
   (Bk p0.fy v4).bind fun v5 =>
   (Bk v5 p2).bind fun v6 =>
   AJ ((!v6))
    (some false)
    (CD N p0 p2 j1 n1 (Ft .u8 v1 ((wI .u8 (v1 - 1))))))
   (j1 ())
def Ew (N : Nat) (p0 : AK) (p1 : Int) (p2 : Int) : Option Bool :=
 CD N p0 p2 (fun (_ : Unit) =>
  some true) N p1
def Fl (N : Nat) (p0 : Aa) (p1 : Ae) (p2 : Int) : Option (Bool × (List Int)) :=
 (Bk p0.fc p2).bind fun v1 =>
 (Em N v1).bind fun v2 =>
 AJ ((!v2))
  (some (false, p1.fg))
  ((EA N p1 v1.fj).bind fun v4 =>
  (Bk p1.fg p2).bind fun v5 =>
  AZ (fun (v6 : Bool) =>
   AJ v6
    (some (false, p1.fg))
    ((Bk p1.fg p2).bind fun _ =>
    some (true, p1.fg.set ((p2).toNat) v4)))
  fun j6 =>
  (Bk p1.fg p2).bind fun v7 =>
  AJ ((v7 == v4))
   (j6 true)
   (AJ ((v1.fa == 4))
    ((Bk p1.fh v1.fj).bind fun v10 =>
    (Ew N v1 ((Cr .u8 v5 v4)) v10).bind fun v11 =>
    j6 (!v11))
    (j6 false)))
def Fh (N : Nat) (p0 : Aa) (p1 : Ae) (p2 : Am) : Option (Ae × Bool) :=
 (Eo N p1).bind fun v1 =>
 AJ ((p2.fa == 1))
  ((Gq N p0 v1 p2).bind fun v3 =>
  some ((Ae.mk v1.fh v3.2.1 v3.2.2), v3.1))
  (AJ ((p2.fa == 3))
   ((Fl N p0 v1 p2.fm).bind fun v5 =>
   some ((Ae.mk v1.fh v1.ff v5.2), v5.1))
   ((Bk v1.ff p2.fm).bind fun v6 =>
   AJ ((decide (v6 < 0)))
    (some (v1, false))
    ((Bk v1.ff p2.fm).bind fun _ =>
    AZ (fun (v9 : (List Int)) =>
     some ((Ae.mk v9 (v1.ff.set ((p2.fm).toNat) ((-1))) v1.fg), true))
    fun j9 =>
    AJ ((p2.fa == 2))
     ((Bk v1.fh p2.fm).bind fun _ =>
     j9 (v1.fh.set ((p2.fm).toNat) v6))
     (j9 v1.fh))))
def EJ (N : Nat) (p0 : Aa) (p1 : Ae) (p2 : Am) : Option (Ae × Int) :=
 (Ff N p2).bind fun v1 =>
 AJ ((!v1))
  (some ((Ae.mk (([] : List Int)) (([] : List Int)) (([] : List Int))), 1))
  ((E0 N p0 p2).bind fun v3 =>
  AJ ((!v3))
   (some ((Ae.mk (([] : List Int)) (([] : List Int)) (([] : List Int))), 4))
   ((Fh N p0 p1 p2).bind fun v5 =>
   AJ ((!v5.2))
    (some ((Ae.mk (([] : List Int)) (([] : List Int)) (([] : List Int))), 11))
    (some (v5.1, 0))))
def El (N : Nat) (p0 : Aa) (p2 : List Am) (j4 : ((List Ae)) → Option ((List Ae) × Int × Int)) : Nat → ((List Ae) × Int) → Option ((List Ae) × Int × Int)
 | 0, _ => none
 | n4 + 1, v4 =>
  AJ ((decide (v4.2 < (p2.length : Int))))
   ((Bk p2 v4.2).bind fun v7 =>
   (Bk v4.1 v4.2).bind fun v8 =>
   (EJ N p0 v8 v7).bind fun v9 =>
   AJ ((v9.2 != 0))
    (some (([] : List Ae), v4.2, v9.2))
    ((E7 (v4.1.length + (([v9.1] : List Ae)).length ≤ Hn)).bind fun _ =>
    El N p0 p2 j4 n4 (v4.1 ++ (([v9.1] : List Ae)), (wI .i64 (v4.2 + 1)))))
   (j4 v4.1)
def Gv (N : Nat) (p0 : Aa) (p1 : Ae) (p2 : List Am) : Option ((List Ae) × Int × Int) :=
 (E8 N p0 p1).bind fun v1 =>
 AJ ((v1 != 0))
  (some (([] : List Ae), 0, v1))
  ((Eo N p1).bind fun v3 =>
  El N p0 p2 (fun (v5 : (List Ae)) =>
   some (v5, (p2.length : Int), 0)) N (([v3] : List Ae), 0))
def Df (N : Nat) (p0 : Aa) (p1 : List Am) : Option (Ae × Int) :=
 (Ba N p1 ((fun (x : Am) => DD N x))).bind fun v1 =>
 AJ v1
  (some ((Ae.mk (([] : List Int)) (([] : List Int)) (([] : List Int))), 1))
  ((FV N p0).bind fun v3 =>
  AJ ((v3.2 != 0))
   (some ((Ae.mk (([] : List Int)) (([] : List Int)) (([] : List Int))), v3.2))
   ((Gv N p0 v3.1 p1).bind fun v5 =>
   some (v3.1, v5.2.2)))
def EF (_ : Nat) (p0 : Int) : Option ByteArray :=
 AZ (fun (v1 : Bool) =>
  AJ v1
   (some ((⟨#[]⟩ : ByteArray)))
   ((Bk ([⟨#[]⟩, (⟨#[114, 101, 97, 100]⟩ : ByteArray), (⟨#[98, 101, 103, 105, 110]⟩ : ByteArray), (⟨#[100, 111, 110, 101]⟩ : ByteArray), (⟨#[97, 98, 111, 114, 116]⟩ : ByteArray), (⟨#[114, 101, 115, 117, 109, 101]⟩ : ByteArray), (⟨#[115, 119, 105, 116, 99, 104]⟩ : ByteArray), (⟨#[108, 101, 97, 115, 101]⟩ : ByteArray)] : List ByteArray) p0).bind fun v4 =>
   some v4))
 fun j1 =>
 AJ ((decide (p0 < 0)))
  (j1 true)
  (j1 (decide (8 ≤ p0)))
def DN (_ : Nat) (p0 : Ac) : Option ((List Int)) :=
 AJ ((p0.fa == 1))
  (some (([p0.fv, p0.fw, p0.fC] : List Int)))
  (AJ ((p0.fa == 6))
   (some (([p0.ft, p0.fq, p0.fD] : List Int)))
   (AJ ((p0.fa == 7))
    (some (([p0.fM, p0.fu] : List Int)))
    (some (([p0.fm, p0.fu] : List Int)))))
def En (_ : Nat) (p0 : Int) (p1 : Int) (p2 : List Int) : Option Ac :=
 AZ (fun (v1 : Int × Int × Int × Int × Int × Int × Int × Int × Int) =>
  some ((Ac.mk p0 p1 v1.1 v1.2.1 v1.2.2.1 v1.2.2.2.1 v1.2.2.2.2.1 v1.2.2.2.2.2.1 v1.2.2.2.2.2.2.1 v1.2.2.2.2.2.2.2.1 v1.2.2.2.2.2.2.2.2)))
 fun j1 =>
 AJ ((p1 == 1))
  ((Bk p2 0).bind fun v3 =>
  (Bk p2 1).bind fun v4 =>
  (Bk p2 2).bind fun v5 =>
  j1 (v3, v4, v5, 0, 0, 0, 0, 0, 0))
  (AJ ((p1 == 6))
   ((Bk p2 0).bind fun v7 =>
   (Bk p2 1).bind fun v8 =>
   (Bk p2 2).bind fun v9 =>
   j1 (0, 0, 0, 0, 0, v9, v7, v8, 0))
   (AJ ((p1 == 7))
    ((Bk p2 0).bind fun v11 =>
    (Bk p2 1).bind fun v12 =>
    j1 (0, 0, 0, 0, v12, 0, 0, 0, v11))
    ((Bk p2 0).bind fun v13 =>
    (Bk p2 1).bind fun v14 =>
    j1 (0, 0, 0, v13, v14, 0, 0, 0, 0))))
def A0 (N : Nat) (p0 : List Int) (p1 : Int → Option Bool) (j1 : Unit → Option Int) : Nat → Int → Option Int
 | 0, _ => none
 | n1 + 1, v1 =>
  AJ ((decide (v1 < (p0.length : Int))))
   ((Bk p0 v1).bind fun v4 =>
   (p1 v4).bind fun v5 =>
   AJ v5
    (some v1)
    (A0 N p0 p1 j1 n1 (wI .i64 (v1 + 1))))
   (j1 ())
def Ch (N : Nat) (p0 : List Int) (p1 : Int → Option Bool) : Option Int :=
 A0 N p0 p1 (fun (_ : Unit) =>
  some ((-1))) N 0
def Bc (N : Nat) (p0 : List Int) (p1 : Int → Option Bool) : Option Bool :=
 (Ch N p0 p1).bind fun v1 =>
 some ((decide (0 ≤ v1)))
def DU (_ : Nat) (p0 : Int) : Option Bool :=
 some ((decide (p0 < 0)))
def EY (N : Nat) (p0 : Ac) : Option Bool :=
 AZ (fun (v1 : Bool) =>
  AJ v1
   (some false)
   ((DN N p0).bind fun v5 =>
   AZ (fun (v6 : Bool) =>
    some v6)
   fun j6 =>
   (En N p0.fi p0.fa v5).bind fun v7 =>
   AJ (((p0.fi == v7.fi) && ((p0.fa == v7.fa) && ((p0.fv == v7.fv) && ((p0.fw == v7.fw) && ((p0.fC == v7.fC) && ((p0.fm == v7.fm) && ((p0.fu == v7.fu) && ((p0.fD == v7.fD) && ((p0.ft == v7.ft) && ((p0.fq == v7.fq) && ((p0.fM == v7.fM) && true))))))))))))
    ((Bc N v5 ((fun (x : Int) => DU N x))).bind fun v9 =>
    j6 (!v9))
    (j6 false)))
 fun j1 =>
 (EF N p0.fa).bind fun v2 =>
 AJ ((v2.toList == ((⟨#[]⟩ : ByteArray)).toList))
  (j1 true)
  (j1 (decide (p0.fi < 0)))
def DH (N : Nat) (p0 : List Ac) (j2 : Unit → Option Int) : Nat → Int → Option Int
 | 0, _ => none
 | n2 + 1, v2 =>
  AJ ((decide (v2 < (p0.length : Int))))
   ((Bk p0 v2).bind fun v5 =>
   AZ (fun (v6 : Bool) =>
    AJ v6
     (some 1)
     (DH N p0 j2 n2 (wI .i64 (v2 + 1))))
   fun j6 =>
   (EY N v5).bind fun v7 =>
   AJ ((!v7))
    (j6 true)
    (AJ ((decide (0 < v2)))
     ((Bk p0 ((wI .i64 (v2 - 1)))).bind fun v10 =>
     j6 (decide (v5.fi < v10.fi)))
     (j6 false)))
   (j2 ())
def Dx (N : Nat) (p0 : List Ac) : Option Int :=
 AJ ((decide (10000 < (p0.length : Int))))
  (some 3)
  (DH N p0 (fun (_ : Unit) =>
   some 0) N 0)
def Ex (_ : Nat) : Option A8 :=
 some ((A8.mk 0 0 false (([] : List (Int × Int)))))
def Ec (_ : Nat) (p0 : Aa) (p1 : Ac) : Option Bool :=
 AJ ((decide ((p0.fc.length : Int) ≤ p1.fv)))
  (some false)
  ((Bk p0.fc p1.fv).bind fun v2 =>
  AZ (fun (v3 : Bool) =>
   some v3)
  fun j3 =>
  AJ ((decide (p1.fw < (v2.fE.length : Int))))
   ((Bk p0.fb v2.fA).bind fun v5 =>
   AJ ((decide (p1.fC < v5)))
    ((Bk v2.fE p1.fw).bind fun v7 =>
    (Bk v7 p1.fC).bind fun v8 =>
    j3 v8)
    (j3 false))
   (j3 false))
def C6 (_ : Nat) (p0 : Ac) : Option Bool :=
 AZ (fun (v1 : Bool) =>
  some v1)
 fun j1 =>
 AJ ((decide (2 ≤ p0.fa)))
  (j1 (decide (p0.fa ≤ 5)))
  (j1 false)
def BV (_ : Nat) (p0 : Ai) (p1 : Ac) : Option Bool :=
 AZ (fun (v1 : Bool) =>
  AJ v1
   (some false)
   (AJ ((p1.fa == 2))
    (some ((p0.fB == 0)))
    (AJ ((p1.fa == 3))
     (some ((p0.fB == 1)))
     (AJ ((p1.fa == 4))
      (AZ (fun (v7 : Bool) =>
       some v7)
      fun j7 =>
      AJ ((p0.fB == 1))
       ((Bk p0.fr p0.fi).bind fun v9 =>
       j7 (v9.fa == 1))
       (j7 false))
      (some ((p0.fB == 2)))))))
 fun j1 =>
 AJ ((p1.fm != p0.fi))
  (j1 true)
  (j1 (decide ((p0.fr.length : Int) ≤ p0.fi)))
def De (N : Nat) (p0 : A8) (p1 : Ac) : Option (Bool × A8 × (List (Int × Int))) :=
 AZ (fun (v1 : (List (Int × Int)) × Int × Int × Bool) =>
  some (true, (A8.mk v1.2.1 v1.2.2.1 v1.2.2.2 v1.1), v1.1))
 fun j1 =>
 (C6 N p1).bind fun v2 =>
 AJ v2
  (AJ ((decide (p1.fu < p0.fF)))
   (some (false, p0, p0.fI))
   (j1 (p0.fI, p1.fu, p0.fG, p0.fH)))
  (AJ ((p1.fa == 6))
   (AJ ((decide (p1.fD < ((Fw p1.ft p0.fI).getD 0))))
    (some (false, p0, p0.fI))
    (j1 (Iu p1.ft p1.fD p0.fI, p0.fF, p0.fG, p0.fH)))
   (AJ ((p1.fa == 7))
    (AZ (fun (v8 : Bool) =>
     AJ v8
      (some (false, p0, p0.fI))
      (j1 (p0.fI, p0.fF, p1.fu, true)))
    fun j8 =>
    AJ p0.fH
     (j8 (decide (p1.fu ≤ p0.fG)))
     (j8 false))
    (j1 (p0.fI, p0.fF, p0.fG, p0.fH))))
def DJ (N : Nat) (p0 : List Int) (j1 : Unit → Option Int) : Nat → (Int × Int) → Option Int
 | 0, _ => none
 | n1 + 1, v1 =>
  AJ ((decide (v1.2 < (p0.length : Int))))
   ((Bk p0 v1.2).bind fun v4 =>
   AJ ((decide (v1.1 < v4)))
    (some v1.2)
    (DJ N p0 j1 n1 ((wI .i64 (v1.1 - v4)), (wI .i64 (v1.2 + 1)))))
   (j1 ())
def Ej (N : Nat) (p0 : List Int) (p1 : Int) : Option Int :=
 DJ N p0 (fun (_ : Unit) =>
  some ((-1))) N (p1, 0)
def Cn (_ : Nat) (p0 : Ae) (p1 : Int) (p2 : Int) : Option Bool :=
 AZ (fun (v1 : Bool) =>
  some v1)
 fun j1 =>
 (Bk p0.fh p1).bind fun v2 =>
 AJ ((v2 == p2))
  (j1 true)
  ((Bk p0.ff p1).bind fun v4 =>
  j1 (v4 == p2))
def DS (N : Nat) (p0 : Aa) (p1 : Ae) (p2 : Ac) : Option Bool :=
 (Bk p0.fc p2.fv).bind fun v1 =>
 (Cn N p1 v1.fA p2.fC).bind fun v2 =>
 AJ ((!v2))
  (some false)
  (AZ (fun (v4 : Bool) =>
   AJ v4
    ((Bk p1.fg p2.fv).bind fun v7 =>
    (E7 (0 ≤ p2.fw)).bind fun _ =>
    some (((Ft .u8 ((FG .u8 v7 p2.fw)) 1) == 1)))
    ((Cn N p1 v1.fj p2.fw).bind fun v9 =>
    some v9))
  fun j4 =>
  AJ ((v1.fa == 3))
   (j4 true)
   (j4 (v1.fa == 4)))
def Fn (N : Nat) (p0 : Aa) (p1 : Ae) (p2 : Am) : Option (Ae × Int) :=
 (E8 N p0 p1).bind fun v1 =>
 AJ ((v1 != 0))
  (some ((Ae.mk (([] : List Int)) (([] : List Int)) (([] : List Int))), v1))
  ((EJ N p0 p1 p2).bind fun v3 =>
  some (v3.1, v3.2))
def B5 (N : Nat) (p0 : Ai) (p1 : Am) : Option Ai :=
 (Fn N ((Aa.mk p0.fd.fb p0.fd.fk p0.fd.fp p0.fd.fc)) ((Ae.mk p0.fe.fh p0.fe.ff p0.fe.fg)) p1).bind fun v1 =>
 AJ ((v1.2 == 0))
  (some ((Ai.mk ((Aa.mk p0.fd.fb p0.fd.fk p0.fd.fp p0.fd.fc)) p0.fr p0.fi p0.fB v1.1)))
  (some ((Ai.mk ((Aa.mk p0.fd.fb p0.fd.fk p0.fd.fp p0.fd.fc)) p0.fr p0.fi p0.fB ((Ae.mk p0.fe.fh p0.fe.ff p0.fe.fg)))))
def BP (N : Nat) (p0 : Ai) (p1 : Ac) : Option Ai :=
 (Bk p0.fr p0.fi).bind fun v1 =>
 AJ ((p1.fa == 2))
  (AJ ((v1.fa == 1))
   ((B5 N ((Ai.mk ((Aa.mk p0.fd.fb p0.fd.fk p0.fd.fp p0.fd.fc)) p0.fr p0.fi 1 ((Ae.mk p0.fe.fh p0.fe.ff p0.fe.fg)))) v1).bind fun v4 =>
   some ((Ai.mk ((Aa.mk v4.fd.fb v4.fd.fk v4.fd.fp v4.fd.fc)) v4.fr v4.fi v4.fB ((Ae.mk v4.fe.fh v4.fe.ff v4.fe.fg)))))
   (some ((Ai.mk ((Aa.mk p0.fd.fb p0.fd.fk p0.fd.fp p0.fd.fc)) p0.fr p0.fi 1 ((Ae.mk p0.fe.fh p0.fe.ff p0.fe.fg))))))
  (AJ ((p1.fa == 3))
   (AZ (fun (v6 : Ai) =>
    some ((Ai.mk ((Aa.mk v6.fd.fb v6.fd.fk v6.fd.fp v6.fd.fc)) v6.fr ((wI .i64 (v6.fi + 1))) 0 ((Ae.mk v6.fe.fh v6.fe.ff v6.fe.fg)))))
   fun j6 =>
   AJ ((v1.fa != 1))
    ((B5 N ((Ai.mk ((Aa.mk p0.fd.fb p0.fd.fk p0.fd.fp p0.fd.fc)) p0.fr p0.fi p0.fB ((Ae.mk p0.fe.fh p0.fe.ff p0.fe.fg)))) v1).bind fun v8 =>
    j6 (Ai.mk ((Aa.mk v8.fd.fb v8.fd.fk v8.fd.fp v8.fd.fc)) v8.fr v8.fi v8.fB ((Ae.mk v8.fe.fh v8.fe.ff v8.fe.fg))))
    (j6 (Ai.mk ((Aa.mk p0.fd.fb p0.fd.fk p0.fd.fp p0.fd.fc)) p0.fr p0.fi p0.fB ((Ae.mk p0.fe.fh p0.fe.ff p0.fe.fg)))))
   (AJ ((p1.fa == 4))
    (some ((Ai.mk ((Aa.mk p0.fd.fb p0.fd.fk p0.fd.fp p0.fd.fc)) p0.fr p0.fi 2 ((Ae.mk p0.fe.fh p0.fe.ff p0.fe.fg)))))
    (AJ ((p1.fa == 5))
     ((B5 N ((Ai.mk ((Aa.mk p0.fd.fb p0.fd.fk p0.fd.fp p0.fd.fc)) p0.fr p0.fi 0 ((Ae.mk p0.fe.fh p0.fe.ff p0.fe.fg)))) ((Am.mk 4 v1.fm 0))).bind fun v11 =>
     some ((Ai.mk ((Aa.mk v11.fd.fb v11.fd.fk v11.fd.fp v11.fd.fc)) v11.fr v11.fi v11.fB ((Ae.mk v11.fe.fh v11.fe.ff v11.fe.fg)))))
     (some ((Ai.mk ((Aa.mk p0.fd.fb p0.fd.fk p0.fd.fp p0.fd.fc)) p0.fr p0.fi p0.fB ((Ae.mk p0.fe.fh p0.fe.ff p0.fe.fg))))))))
def Di (N : Nat) (p0 : Ai) (p1 : A8) (p2 : List Int) (p3 : Ac) : Option (Int × Ai × A8 × (List (Int × Int))) :=
 AZ (fun (v1 : (List (Int × Int)) × Ai × Int × Int × Bool) =>
  some (0, (Ai.mk ((Aa.mk v1.2.1.fd.fb v1.2.1.fd.fk v1.2.1.fd.fp v1.2.1.fd.fc)) v1.2.1.fr v1.2.1.fi v1.2.1.fB ((Ae.mk v1.2.1.fe.fh v1.2.1.fe.ff v1.2.1.fe.fg))), (A8.mk v1.2.2.1 v1.2.2.2.1 v1.2.2.2.2 v1.1), v1.1))
 fun j1 =>
 AZ (fun (v2 : Bool) =>
  AJ v2
   (some (1, (Ai.mk ((Aa.mk p0.fd.fb p0.fd.fk p0.fd.fp p0.fd.fc)) p0.fr p0.fi p0.fB ((Ae.mk p0.fe.fh p0.fe.ff p0.fe.fg))), p1, p1.fI))
   (AZ (fun (v6 : Bool) =>
    AJ v6
     (some (2, (Ai.mk ((Aa.mk p0.fd.fb p0.fd.fk p0.fd.fp p0.fd.fc)) p0.fr p0.fi p0.fB ((Ae.mk p0.fe.fh p0.fe.ff p0.fe.fg))), p1, p1.fI))
     ((De N p1 p3).bind fun v11 =>
     AJ ((!v11.1))
      (some (3, (Ai.mk ((Aa.mk p0.fd.fb p0.fd.fk p0.fd.fp p0.fd.fc)) p0.fr p0.fi p0.fB ((Ae.mk p0.fe.fh p0.fe.ff p0.fe.fg))), (A8.mk v11.2.1.fF v11.2.1.fG v11.2.1.fH v11.2.2), v11.2.2))
      (AJ ((p3.fa == 6))
       ((Ej N p2 p3.ft).bind fun v14 =>
       AZ (fun (v15 : Bool) =>
        AJ v15
         (some (4, (Ai.mk ((Aa.mk p0.fd.fb p0.fd.fk p0.fd.fp p0.fd.fc)) p0.fr p0.fi p0.fB ((Ae.mk p0.fe.fh p0.fe.ff p0.fe.fg))), (A8.mk v11.2.1.fF v11.2.1.fG v11.2.1.fH v11.2.2), v11.2.2))
         (j1 (v11.2.2, (Ai.mk ((Aa.mk p0.fd.fb p0.fd.fk p0.fd.fp p0.fd.fc)) p0.fr p0.fi p0.fB ((Ae.mk p0.fe.fh p0.fe.ff p0.fe.fg))), v11.2.1.fF, v11.2.1.fG, v11.2.1.fH)))
       fun j15 =>
       AJ ((decide (v14 < 0)))
        (j15 true)
        ((Cn N ((Ae.mk p0.fe.fh p0.fe.ff p0.fe.fg)) v14 p3.fq).bind fun v17 =>
        j15 (!v17)))
       (AJ ((p3.fa == 1))
        ((DS N ((Aa.mk p0.fd.fb p0.fd.fk p0.fd.fp p0.fd.fc)) ((Ae.mk p0.fe.fh p0.fe.ff p0.fe.fg)) p3).bind fun v20 =>
        AJ ((!v20))
         (some (5, (Ai.mk ((Aa.mk p0.fd.fb p0.fd.fk p0.fd.fp p0.fd.fc)) p0.fr p0.fi p0.fB ((Ae.mk p0.fe.fh p0.fe.ff p0.fe.fg))), (A8.mk v11.2.1.fF v11.2.1.fG v11.2.1.fH v11.2.2), v11.2.2))
         (j1 (v11.2.2, (Ai.mk ((Aa.mk p0.fd.fb p0.fd.fk p0.fd.fp p0.fd.fc)) p0.fr p0.fi p0.fB ((Ae.mk p0.fe.fh p0.fe.ff p0.fe.fg))), v11.2.1.fF, v11.2.1.fG, v11.2.1.fH)))
        ((C6 N p3).bind fun v22 =>
        AJ v22
         ((BP N ((Ai.mk ((Aa.mk p0.fd.fb p0.fd.fk p0.fd.fp p0.fd.fc)) p0.fr p0.fi p0.fB ((Ae.mk p0.fe.fh p0.fe.ff p0.fe.fg)))) p3).bind fun v24 =>
         j1 (v11.2.2, (Ai.mk ((Aa.mk v24.fd.fb v24.fd.fk v24.fd.fp v24.fd.fc)) v24.fr v24.fi v24.fB ((Ae.mk v24.fe.fh v24.fe.ff v24.fe.fg))), v11.2.1.fF, v11.2.1.fG, v11.2.1.fH))
         (j1 (v11.2.2, (Ai.mk ((Aa.mk p0.fd.fb p0.fd.fk p0.fd.fp p0.fd.fc)) p0.fr p0.fi p0.fB ((Ae.mk p0.fe.fh p0.fe.ff p0.fe.fg))), v11.2.1.fF, v11.2.1.fG, v11.2.1.fH)))))))
   fun j6 =>
   (C6 N p3).bind fun v7 =>
   AJ v7
    ((BV N ((Ai.mk ((Aa.mk p0.fd.fb p0.fd.fk p0.fd.fp p0.fd.fc)) p0.fr p0.fi p0.fB ((Ae.mk p0.fe.fh p0.fe.ff p0.fe.fg)))) p3).bind fun v9 =>
    j6 (!v9))
    (j6 false)))
 fun j2 =>
 AJ ((p3.fa == 1))
  ((Ec N ((Aa.mk p0.fd.fb p0.fd.fk p0.fd.fp p0.fd.fc)) p3).bind fun v4 =>
  j2 (!v4))
  (j2 false)
def Dh (N : Nat) (p1 : List Int) (p3 : List Ac) (j11 : Ai → Option (Int × Int × (Option Ai) × Int)) : Nat → (Ai × Int × Int × Bool × (List (Int × Int)) × Int) → Option (Int × Int × (Option Ai) × Int)
 | 0, _ => none
 | n11 + 1, v11 =>
  AJ ((decide (v11.2.2.2.2.2 < (p3.length : Int))))
   ((Bk p3 v11.2.2.2.2.2).bind fun v14 =>
   (Di N ((Ai.mk ((Aa.mk v11.1.fd.fb v11.1.fd.fk v11.1.fd.fp v11.1.fd.fc)) v11.1.fr v11.1.fi v11.1.fB ((Ae.mk v11.1.fe.fh v11.1.fe.ff v11.1.fe.fg)))) ((A8.mk v11.2.1 v11.2.2.1 v11.2.2.2.1 v11.2.2.2.2.1)) p1 v14).bind fun v15 =>
   AJ ((v15.1 != 0))
    (some (v11.2.2.2.2.2, v15.1, (none : Option Ai), 0))
    (Dh N p1 p3 j11 n11 ((Ai.mk ((Aa.mk v15.2.1.fd.fb v15.2.1.fd.fk v15.2.1.fd.fp v15.2.1.fd.fc)) v15.2.1.fr v15.2.1.fi v15.2.1.fB ((Ae.mk v15.2.1.fe.fh v15.2.1.fe.ff v15.2.1.fe.fg))), v15.2.2.1.fF, v15.2.2.1.fG, v15.2.2.1.fH, v15.2.2.2, (wI .i64 (v11.2.2.2.2.2 + 1)))))
   (j11 (Ai.mk ((Aa.mk v11.1.fd.fb v11.1.fd.fk v11.1.fd.fp v11.1.fd.fc)) v11.1.fr v11.1.fi v11.1.fB ((Ae.mk v11.1.fe.fh v11.1.fe.ff v11.1.fe.fg))))
def E4 (N : Nat) (p0 : Aa) (p1 : List Int) (p2 : List Am) (p3 : List Ac) : Option (Int × Int × (Option Ai) × Int) :=
 (BS N p0).bind fun v1 =>
 AJ ((v1 != 0))
  (some (0, 0, (none : Option Ai), v1))
  ((Ep N p0 p1).bind fun v3 =>
  AJ ((v3 != 0))
   (some (0, 0, (none : Option Ai), v3))
   ((Df N p0 p2).bind fun v5 =>
   AZ (fun (v6 : Int) =>
    AJ ((v6 != 0))
     (some (0, 0, (none : Option Ai), v6))
     ((Ex N).bind fun v10 =>
     Dh N p1 p3 (fun (v12 : Ai) =>
      some (0, 0, (some ((Ai.mk ((Aa.mk v12.fd.fb v12.fd.fk v12.fd.fp v12.fd.fc)) v12.fr v12.fi v12.fB ((Ae.mk v12.fe.fh v12.fe.ff v12.fe.fg))))), 15)) N ((Ai.mk p0 p2 0 0 v5.1), v10.fF, v10.fG, v10.fH, v10.fI, 0)))
   fun j6 =>
   AJ ((v5.2 == 0))
    ((Dx N p3).bind fun v8 =>
    j6 v8)
    (j6 v5.2)))
def Dt (N : Nat) (p0 : Aa) (p1 : List Int) (p2 : List Am) (p3 : List Ac) : Option (Int × Int × Int) :=
 (E4 N p0 p1 p2 p3).bind fun v1 =>
 some (v1.1, v1.2.1, v1.2.2.2)
def D5 (N : Nat) (p2 : List Ac) (j8 : Ai → Option ((Option Ai) × Int × Int)) : Nat → (Ai × Int) → Option ((Option Ai) × Int × Int)
 | 0, _ => none
 | n8 + 1, v8 =>
  AJ ((decide (v8.2 < (p2.length : Int))))
   (AZ (fun (v11 : Ai) =>
    D5 N p2 j8 n8 ((Ai.mk ((Aa.mk v11.fd.fb v11.fd.fk v11.fd.fp v11.fd.fc)) v11.fr v11.fi v11.fB ((Ae.mk v11.fe.fh v11.fe.ff v11.fe.fg))), (wI .i64 (v8.2 + 1))))
   fun j11 =>
   (Bk p2 v8.2).bind fun v12 =>
   (C6 N v12).bind fun v13 =>
   AJ ((!v13))
    (j11 (Ai.mk ((Aa.mk v8.1.fd.fb v8.1.fd.fk v8.1.fd.fp v8.1.fd.fc)) v8.1.fr v8.1.fi v8.1.fB ((Ae.mk v8.1.fe.fh v8.1.fe.ff v8.1.fe.fg))))
    ((BV N ((Ai.mk ((Aa.mk v8.1.fd.fb v8.1.fd.fk v8.1.fd.fp v8.1.fd.fc)) v8.1.fr v8.1.fi v8.1.fB ((Ae.mk v8.1.fe.fh v8.1.fe.ff v8.1.fe.fg)))) v12).bind fun v15 =>
    AJ ((!v15))
     (some ((some ((Ai.mk ((Aa.mk v8.1.fd.fb v8.1.fd.fk v8.1.fd.fp v8.1.fd.fc)) v8.1.fr v8.1.fi v8.1.fB ((Ae.mk v8.1.fe.fh v8.1.fe.ff v8.1.fe.fg))))), v8.2, 0))
     ((BP N ((Ai.mk ((Aa.mk v8.1.fd.fb v8.1.fd.fk v8.1.fd.fp v8.1.fd.fc)) v8.1.fr v8.1.fi v8.1.fB ((Ae.mk v8.1.fe.fh v8.1.fe.ff v8.1.fe.fg)))) v12).bind fun v17 =>
     j11 (Ai.mk ((Aa.mk v17.fd.fb v17.fd.fk v17.fd.fp v17.fd.fc)) v17.fr v17.fi v17.fB ((Ae.mk v17.fe.fh v17.fe.ff v17.fe.fg))))))
   (j8 (Ai.mk ((Aa.mk v8.1.fd.fb v8.1.fd.fk v8.1.fd.fp v8.1.fd.fc)) v8.1.fr v8.1.fi v8.1.fB ((Ae.mk v8.1.fe.fh v8.1.fe.ff v8.1.fe.fg))))
def F2 (N : Nat) (p0 : Aa) (p1 : List Am) (p2 : List Ac) : Option ((Option Ai) × Int × Int) :=
 (BS N p0).bind fun v1 =>
 AJ ((v1 != 0))
  (some ((none : Option Ai), 0, v1))
  ((Df N p0 p1).bind fun v3 =>
  AZ (fun (v4 : Int) =>
   AJ ((v4 != 0))
    (some ((none : Option Ai), 0, v4))
    (D5 N p2 (fun (v9 : Ai) =>
     some ((some ((Ai.mk ((Aa.mk v9.fd.fb v9.fd.fk v9.fd.fp v9.fd.fc)) v9.fr v9.fi v9.fB ((Ae.mk v9.fe.fh v9.fe.ff v9.fe.fg))))), (-1), 0)) N ((Ai.mk p0 p1 0 0 v3.1), 0)))
  fun j4 =>
  AJ ((v3.2 == 0))
   ((Dx N p2).bind fun v6 =>
   j4 v6)
   (j4 v3.2))
def H5 (N : Nat) (p0 : Aa) (p1 : List Am) (p2 : List Ac) : Option (Ae × Int) :=
 (F2 N p0 p1 p2).bind fun v1 =>
 AJ ((v1.2.2 != 0))
  (some ((Ae.mk (([] : List Int)) (([] : List Int)) (([] : List Int))), v1.2.2))
  (AJ ((decide (0 ≤ v1.2.1)))
   (some ((Ae.mk (([] : List Int)) (([] : List Int)) (([] : List Int))), 11))
   (v1.1.bind fun v4 =>
   some ((Ae.mk v4.fe.fh v4.fe.ff v4.fe.fg), 0)))
def E3 (_ : Nat) (p0 p1 : Int) : Option ByteArray := (E7 (p1 = 10)).bind fun _ => MU p0
def E6 (N : Nat) (v5 : (List Int)) (j6 : ByteArray → Option ByteArray) : Nat → (ByteArray × Int) → Option ByteArray
 | 0, _ => none
 | n6 + 1, v6 =>
  AJ ((decide (v6.2 < (v5.length : Int))))
   ((Bk v5 v6.2).bind fun v9 =>
   (E3 N v9 10).bind fun v10 =>
   (E7 (((⟨#[32]⟩ : ByteArray)).size + v10.size ≤ 9223372036854775807)).bind fun _ =>
   (E7 (v6.1.size + (((⟨#[32]⟩ : ByteArray) ++ v10)).size ≤ 9223372036854775807)).bind fun _ =>
   E6 N v5 j6 n6 ((v6.1 ++ ((⟨#[32]⟩ : ByteArray) ++ v10)), (wI .i64 (v6.2 + 1))))
   (j6 v6.1)
def EI (N : Nat) (p0 : Ac) : Option ByteArray :=
 (E3 N p0.fi 10).bind fun v1 =>
 (E7 (v1.size + ((⟨#[32]⟩ : ByteArray)).size ≤ 9223372036854775807)).bind fun _ =>
 (EF N p0.fa).bind fun v3 =>
 (E7 (((v1 ++ (⟨#[32]⟩ : ByteArray))).size + v3.size ≤ 9223372036854775807)).bind fun _ =>
 (DN N p0).bind fun v5 =>
 E6 N v5 (fun (v7 : ByteArray) =>
  (E7 (v7.size + ((⟨#[10]⟩ : ByteArray)).size ≤ 9223372036854775807)).bind fun _ =>
  some ((v7 ++ (⟨#[10]⟩ : ByteArray)))) N (((v1 ++ (⟨#[32]⟩ : ByteArray)) ++ v3), 0)
def D4 (line : Ac → Option ByteArray) : List Ac → ByteArray → Option ByteArray
 | [], a => some a
 | x :: xs, a => (line x).bind fun s => (E7 (a.size + s.size ≤ 140737488355328)).bind fun _ => D4 line xs (a ++ s)
def Ij (N : Nat) (p0 : List Ac) : Option (ByteArray × Int) :=
 (E7 (p0.length ≤ 1000000)).bind fun _ =>
 (Dx N p0).bind fun v1 =>
 AJ (v1 != 0)
  (some (⟨#[]⟩, v1))
  ((D4 (fun x => EI N x) p0 ⟨#[]⟩).bind fun s =>
  AJ (decide (65536 < s.size)) (some (⟨#[]⟩, 3)) (some (s, 0)))
def HE (_ : Nat) (p0 : Int) : Option ByteArray :=
 (Bk (([(⟨#[]⟩ : ByteArray), (⟨#[114, 101, 97, 100]⟩ : ByteArray), (⟨#[111, 114, 100, 101, 114]⟩ : ByteArray), (⟨#[116, 111, 107, 101, 110]⟩ : ByteArray), (⟨#[115, 119, 105, 116, 99, 104]⟩ : ByteArray), (⟨#[109, 105, 120]⟩ : ByteArray)] : List ByteArray)) p0).bind fun v1 =>
 some v1
def Ii (_ : Nat) (p0 : Int) : Option ByteArray := MU p0
def CX (_ : Nat) (p0 : ByteArray) (p1 : ByteArray) : Option Bool :=
 AZ (fun (v1 : Bool) =>
  some v1)
 fun j1 =>
 AJ ((decide ((p1.size : Int) ≤ (p0.size : Int))))
  ((E7 ((0 : Int) ≤ (wI .i64 ((p0.size : Int) - (p1.size : Int))) ∧ ((wI .i64 ((p0.size : Int) - (p1.size : Int)))).toNat ≤ p0.size ∧ p0.size ≤ p0.size)).bind fun _ =>
  j1 (((p0.extract (((wI .i64 ((p0.size : Int) - (p1.size : Int)))).toNat) p0.size)).toList == p1.toList))
  (j1 false)
def CG (N : Nat) (p0 : ByteArray) (p1 : ByteArray) : Option ByteArray :=
 (CX N p0 p1).bind fun v1 =>
 AJ v1
  ((E7 ((0 : Int) ≤ (wI .i64 ((p0.size : Int) - (p1.size : Int))) ∧ 0 ≤ ((wI .i64 ((p0.size : Int) - (p1.size : Int)))).toNat ∧ ((wI .i64 ((p0.size : Int) - (p1.size : Int)))).toNat ≤ p0.size)).bind fun _ =>
  some ((p0.extract 0 (((wI .i64 ((p0.size : Int) - (p1.size : Int)))).toNat))))
  (some p0)
def ER (N : Nat) (p0 : ByteArray) (p1 : ByteArray) : Option ByteArray :=
 (CG N p0 p1).bind fun v1 =>
 some v1
def GJ (N : Nat) (p0 : List Ac) (p1 : Int) (p2 : Int) : Option (ByteArray × Int) :=
 (Dx N p0).bind fun v1 =>
 AJ ((v1 != 0))
  (some ((⟨#[]⟩ : ByteArray), v1))
  (AZ (fun (v3 : Bool) =>
   AJ v3
    (some ((⟨#[]⟩ : ByteArray), 7))
    (AZ (fun (v6 : Bool) =>
     AJ v6
      (some ((⟨#[]⟩ : ByteArray), 1))
      ((E7 ((0 : Int) ≤ p1 ∧ (0 : Int) ≤ (wI .i64 (p1 + 1)) ∧ (p1).toNat ≤ ((wI .i64 (p1 + 1))).toNat ∧ ((wI .i64 (p1 + 1))).toNat ≤ p0.length)).bind fun _ =>
      (Ij N (((p0.drop (p1).toNat).take (((wI .i64 (p1 + 1))).toNat - (p1).toNat)))).bind fun v10 =>
      AJ ((v10.2 != 0))
       (some ((⟨#[]⟩ : ByteArray), v10.2))
       ((HE N p2).bind fun v12 =>
       (E7 (v12.size + ((⟨#[32]⟩ : ByteArray)).size ≤ 9223372036854775807)).bind fun _ =>
       (Ii N p1).bind fun v14 =>
       (E7 (((v12 ++ (⟨#[32]⟩ : ByteArray))).size + v14.size ≤ 9223372036854775807)).bind fun _ =>
       (E7 ((((v12 ++ (⟨#[32]⟩ : ByteArray)) ++ v14)).size + ((⟨#[58, 32]⟩ : ByteArray)).size ≤ 9223372036854775807)).bind fun _ =>
       (ER N v10.1 ((⟨#[10]⟩ : ByteArray))).bind fun v17 =>
       (E7 (((((v12 ++ (⟨#[32]⟩ : ByteArray)) ++ v14) ++ (⟨#[58, 32]⟩ : ByteArray))).size + v17.size ≤ 9223372036854775807)).bind fun _ =>
       some (((((v12 ++ (⟨#[32]⟩ : ByteArray)) ++ v14) ++ (⟨#[58, 32]⟩ : ByteArray)) ++ v17), 0))))
    fun j6 =>
    AJ ((decide (p2 < 1)))
     (j6 true)
     (j6 (decide (5 < p2)))))
  fun j3 =>
  AJ ((decide (p1 < 0)))
   (j3 true)
   (j3 (decide ((p0.length : Int) ≤ p1))))
def Dn (N : Nat) : Option Bool :=
 (E7 ((0 : Int) ≤ 3 ∧ 0 ≤ (3 : Int).toNat ∧ (3 : Int).toNat ≤ (([(Ac.mk 0 7 0 0 0 0 1 0 0 0 0), (Ac.mk 0 2 0 0 0 0 1 0 0 0 0), (Ac.mk 1 6 0 0 0 0 0 1 0 1 0), (Ac.mk 2 3 0 0 0 1 1 0 0 0 0)] : List Ac)).length)).bind fun _ =>
 (Dt N ((Aa.mk (([2] : List Int)) (([0] : List Int)) (([1] : List Int)) (([] : List AK)))) (([1] : List Int)) (([(Am.mk 1 0 1), (Am.mk 2 0 0)] : List Am)) ((((([(Ac.mk 0 7 0 0 0 0 1 0 0 0 0), (Ac.mk 0 2 0 0 0 0 1 0 0 0 0), (Ac.mk 1 6 0 0 0 0 0 1 0 1 0), (Ac.mk 2 3 0 0 0 1 1 0 0 0 0)] : List Ac)).drop 0).take ((3 : Int).toNat - 0)))).bind fun v2 =>
 (E7 ((0 : Int) ≤ 3 ∧ 0 ≤ (3 : Int).toNat ∧ (3 : Int).toNat ≤ (([(Ac.mk 0 7 0 0 0 0 1 0 0 0 0), (Ac.mk 0 2 0 0 0 0 1 0 0 0 0), (Ac.mk 1 6 0 0 0 0 0 1 0 1 0), (Ac.mk 2 3 0 0 0 1 1 0 0 0 0)] : List Ac)).length)).bind fun _ =>
 (H5 N ((Aa.mk (([2] : List Int)) (([0] : List Int)) (([1] : List Int)) (([] : List AK)))) (([(Am.mk 1 0 1), (Am.mk 2 0 0)] : List Am)) ((((([(Ac.mk 0 7 0 0 0 0 1 0 0 0 0), (Ac.mk 0 2 0 0 0 0 1 0 0 0 0), (Ac.mk 1 6 0 0 0 0 0 1 0 1 0), (Ac.mk 2 3 0 0 0 1 1 0 0 0 0)] : List Ac)).drop 0).take ((3 : Int).toNat - 0)))).bind fun v4 =>
 (Dt N ((Aa.mk (([2] : List Int)) (([0] : List Int)) (([1] : List Int)) (([] : List AK)))) (([1] : List Int)) (([(Am.mk 1 0 1), (Am.mk 2 0 0)] : List Am)) (([(Ac.mk 0 7 0 0 0 0 1 0 0 0 0), (Ac.mk 0 2 0 0 0 0 1 0 0 0 0), (Ac.mk 1 6 0 0 0 0 0 1 0 1 0), (Ac.mk 2 3 0 0 0 1 1 0 0 0 0)] : List Ac))).bind fun v5 =>
 (GJ N (([(Ac.mk 0 7 0 0 0 0 1 0 0 0 0), (Ac.mk 0 2 0 0 0 0 1 0 0 0 0), (Ac.mk 1 6 0 0 0 0 0 1 0 1 0), (Ac.mk 2 3 0 0 0 1 1 0 0 0 0)] : List Ac)) 3 2).bind fun v6 =>
 AZ (fun (v7 : Bool) =>
  some v7)
 fun j7 =>
 AJ ((v2.2.2 == 15))
  (AJ ((v4.2 == 0))
   (AJ ((v5.2.2 == 0))
    (AJ ((v6.2 == 0))
     (AJ (((v4.1.ff.length : Int) == 1))
      ((Bk v4.1.ff 0).bind fun v13 =>
      AJ ((v13 == 1))
       (AJ ((v5.1 == 3))
        (AJ ((v5.2.1 == 2))
         (j7 (v6.1.toList == ((⟨#[111, 114, 100, 101, 114, 32, 51, 58, 32, 50, 32, 100, 111, 110, 101, 32, 49, 32, 49]⟩ : ByteArray)).toList))
         (j7 false))
        (j7 false))
       (j7 false))
      (j7 false))
     (j7 false))
    (j7 false))
   (j7 false))
  (j7 false)
def BL (N : Nat) (p0 : Aa) (v6 : Int) (j14 : Unit → Option Bool) : Nat → Int → Option Bool
 | 0, _ => none
 | n14 + 1, v14 =>
  (Bk p0.fc v6).bind fun v16 =>
  AJ ((decide (v14 < (v16.fE.length : Int))))
   ((Bk p0.fc v6).bind fun v18 =>
   (Bk v18.fE v14).bind fun v19 =>
   AJ ((decide (8 < (v19.length : Int))))
    (some false)
    (BL N p0 v6 j14 n14 (wI .i64 (v14 + 1))))
   (j14 ())
def BM (N : Nat) (p0 : Aa) (v6 : Int) (j21 : Unit → Option Bool) : Nat → Int → Option Bool
 | 0, _ => none
 | n21 + 1, v21 =>
  (Bk p0.fc v6).bind fun v23 =>
  AJ ((decide (v21 < (v23.fy.length : Int))))
   ((Bk p0.fc v6).bind fun v25 =>
   (Bk v25.fy v21).bind fun v26 =>
   AJ ((decide (8 < (v26.length : Int))))
    (some false)
    (BM N p0 v6 j21 n21 (wI .i64 (v21 + 1))))
   (j21 ())
def CA (N : Nat) (p0 : Aa) (j6 : Unit → Option Bool) : Nat → Int → Option Bool
 | 0, _ => none
 | n6 + 1, v6 =>
  AJ ((decide (v6 < (p0.fc.length : Int))))
   (AZ (fun (v9 : Bool) =>
    AJ v9
     (some false)
     (BL N p0 v6 (fun (_ : Unit) =>
      BM N p0 v6 (fun (_ : Unit) =>
       CA N p0 j6 n6 (wI .i64 (v6 + 1))) N 0) N 0))
   fun j9 =>
   (Bk p0.fc v6).bind fun v10 =>
   AJ ((decide (8 < (v10.fE.length : Int))))
    (j9 true)
    ((Bk p0.fc v6).bind fun v12 =>
    j9 (decide (8 < (v12.fy.length : Int)))))
   (j6 ())
def Dg (N : Nat) (p0 : Aa) : Option Bool :=
 AZ (fun (v1 : Bool) =>
  AJ v1
   (some false)
   (CA N p0 (fun (_ : Unit) =>
    some true) N 0))
 fun j1 =>
 AJ ((decide (8 < (p0.fb.length : Int))))
  (j1 true)
  (AJ ((decide (8 < (p0.fk.length : Int))))
   (j1 true)
   (AJ ((decide (8 < (p0.fp.length : Int))))
    (j1 true)
    (j1 (decide (14 < (p0.fc.length : Int))))))
def Ci (N : Nat) (p0 : BU) : Option Bool :=
 AZ (fun (v1 : Bool) =>
  some v1)
 fun j1 =>
 (Dg N ((Aa.mk p0.fd.fb p0.fd.fk p0.fd.fp p0.fd.fc))).bind fun v2 =>
 AJ v2
  (AJ ((decide ((p0.fQ.length : Int) ≤ 8)))
   (AJ ((decide ((p0.fr.length : Int) ≤ 20)))
    (j1 (decide ((p0.fO.length : Int) ≤ 80)))
    (j1 false))
   (j1 false))
  (j1 false)
def Bx (_ : Nat) (p0 : List Ac) : Option ((List Ac)) :=
 (E7 ((([] : List Ac)).length + p0.length ≤ Hn)).bind fun _ =>
 some ((([] : List Ac)) ++ p0)
def AS (_ : Nat) (p0 : AK) : Option Bool :=
 AZ (fun (v1 : Bool) =>
  some v1)
 fun j1 =>
 AJ ((p0.fa == 3))
  (j1 true)
  (j1 (p0.fa == 4))
def BO (N : Nat) (p0 : List (List Bool)) (p1 : Int) (p2 : Int) (j2 : Unit → Option Bool) : Nat → Int → Option Bool
 | 0, _ => none
 | n2 + 1, v2 =>
  AJ ((decide (v2 < p1)))
   ((Bk p0 v2).bind fun v5 =>
   AJ (((v5.length : Int) != p2))
    (some false)
    (BO N p0 p1 p2 j2 n2 (wI .i64 (v2 + 1))))
   (j2 ())
def Cz (N : Nat) (p0 : List (List Bool)) (p1 : Int) (p2 : Int) : Option Bool :=
 AJ (((p0.length : Int) != p1))
  (some false)
  (BO N p0 p1 p2 (fun (_ : Unit) =>
   some true) N 0)
def Bw (N : Nat) (p1 : AK) (j22 : Unit → Option Int) : Nat → Int → Option Int
 | 0, _ => none
 | n22 + 1, v22 =>
  AJ ((decide (v22 < (p1.fy.length : Int))))
   ((Bk p1.fy v22).bind fun v25 =>
   (Bk v25 v22).bind fun v26 =>
   AJ ((!v26))
    (some 1)
    (Bw N p1 j22 n22 (wI .i64 (v22 + 1))))
   (j22 ())
def DC (N : Nat) (p0 : Aa) (p1 : AK) : Option Int :=
 AZ (fun (v1 : Bool) =>
  AJ v1
   (some 1)
   (AZ (fun (v7 : Bool) =>
    AJ v7
     (some 4)
     ((Bk p0.fb p1.fj).bind fun v12 =>
     (Bk p0.fb p1.fA).bind fun v13 =>
     (Cz N p1.fE v12 v13).bind fun v14 =>
     AJ ((!v14))
      (some 6)
      (AJ ((p1.fa != 4))
       (AJ (((p1.fy.length : Int) != 0))
        (some 6)
        (some 0))
       ((Bk p0.fb p1.fj).bind fun v18 =>
       (Bk p0.fb p1.fj).bind fun v19 =>
       (Cz N p1.fy v18 v19).bind fun v20 =>
       AJ ((!v20))
        (some 6)
        (Bw N p1 (fun (_ : Unit) =>
         some 0) N 0)))))
   fun j7 =>
   AJ ((decide (p1.fj < 0)))
    (j7 true)
    (AJ ((decide ((p0.fb.length : Int) ≤ p1.fj)))
     (j7 true)
     (AJ ((decide (p1.fA < 0)))
      (j7 true)
      (j7 (decide ((p0.fb.length : Int) ≤ p1.fA)))))))
 fun j1 =>
 AJ ((decide (p1.fa < 1)))
  (j1 true)
  (AJ ((decide (4 < p1.fa)))
   (j1 true)
   (AJ p1.fN
    ((AS N p1).bind fun v5 =>
    j1 v5)
    (j1 false)))
def A2 (N : Nat) (p0 : Aa) (j7 : Unit → Option Int) : Nat → Int → Option Int
 | 0, _ => none
 | n7 + 1, v7 =>
  AJ ((decide (v7 < (p0.fb.length : Int))))
   ((Bk p0.fb v7).bind fun v10 =>
   AZ (fun (v11 : Bool) =>
    AJ v11
     (some 7)
     (A2 N p0 j7 n7 (wI .i64 (v7 + 1))))
   fun j11 =>
   AJ ((decide (v10 < 1)))
    (j11 true)
    (AJ ((decide (6 < v10)))
     (j11 true)
     ((Bk p0.fk v7).bind fun v14 =>
     AJ ((decide (v14 < 0)))
      (j11 true)
      ((Bk p0.fk v7).bind fun v16 =>
      AJ ((decide (v10 ≤ v16)))
       (j11 true)
       ((Bk p0.fp v7).bind fun v18 =>
       AJ ((decide (v18 < 0)))
        (j11 true)
        ((Bk p0.fp v7).bind fun v20 =>
        j11 (decide (v10 ≤ v20))))))))
   (j7 ())
def AY (N : Nat) (p0 : Aa) (j22 : Unit → Option Int) : Nat → Int → Option Int
 | 0, _ => none
 | n22 + 1, v22 =>
  AJ ((decide (v22 < (p0.fc.length : Int))))
   ((Bk p0.fc v22).bind fun v25 =>
   (DC N p0 v25).bind fun v26 =>
   AJ ((v26 != 0))
    (some v26)
    (AY N p0 j22 n22 (wI .i64 (v22 + 1))))
   (j22 ())
def Br (N : Nat) (p0 : Aa) : Option Int :=
 AZ (fun (v1 : Bool) =>
  AJ v1
   (some 3)
   (AZ (fun (v4 : Bool) =>
    AJ v4
     (some 6)
     (A2 N p0 (fun (_ : Unit) =>
      AY N p0 (fun (_ : Unit) =>
       some 0) N 0) N 0))
   fun j4 =>
   AJ (((p0.fk.length : Int) != (p0.fb.length : Int)))
    (j4 true)
    (j4 ((p0.fp.length : Int) != (p0.fb.length : Int)))))
 fun j1 =>
 AJ ((decide (6 < (p0.fb.length : Int))))
  (j1 true)
  (j1 (decide (12 < (p0.fc.length : Int))))
def B3 (N : Nat) (p1 : List Int) (j4 : Unit → Option Int) : Nat → Int → Option Int
 | 0, _ => none
 | n4 + 1, v4 =>
  AJ ((decide (v4 < (p1.length : Int))))
   (AZ (fun (v7 : Bool) =>
    AJ v7
     (some 7)
     (B3 N p1 j4 n4 (wI .i64 (v4 + 1))))
   fun j7 =>
   (Bk p1 v4).bind fun v8 =>
   AJ ((decide (v8 < 1)))
    (j7 true)
    ((Bk p1 v4).bind fun v10 =>
    j7 (decide (4 < v10))))
   (j4 ())
def C2 (N : Nat) (p0 : Aa) (p1 : List Int) : Option Int :=
 (Br N p0).bind fun v1 =>
 AJ ((v1 != 0))
  (some v1)
  (AJ (((p1.length : Int) != (p0.fb.length : Int)))
   (some 6)
   (B3 N p1 (fun (_ : Unit) =>
    some 0) N 0))
def BC (N : Nat) (p0 : Aa) (j3 : ((List Int) × (List Int)) → Option (Ae × Int)) : Nat → ((List Int) × (List Int) × Int) → Option (Ae × Int)
 | 0, _ => none
 | n3 + 1, v3 =>
  AJ ((decide (v3.2.2 < (p0.fb.length : Int))))
   ((Bk p0.fk v3.2.2).bind fun v6 =>
   (E7 (v3.1.length + (([v6] : List Int)).length ≤ Hn)).bind fun _ =>
   (E7 (v3.2.1.length + (([(-1)] : List Int)).length ≤ Hn)).bind fun _ =>
   BC N p0 j3 n3 (v3.1 ++ (([v6] : List Int)), v3.2.1 ++ (([(-1)] : List Int)), (wI .i64 (v3.2.2 + 1))))
   (j3 (v3.1, v3.2.1))
def A1 (N : Nat) (p0 : Aa) (j9 : ((List Int)) → Option (Ae × Int)) : Nat → ((List Int) × Int) → Option (Ae × Int)
 | 0, _ => none
 | n9 + 1, v9 =>
  AJ ((decide (v9.2 < (p0.fc.length : Int))))
   (AZ (fun (v12 : Int) =>
    (E7 (v9.1.length + (([v12] : List Int)).length ≤ Hn)).bind fun _ =>
    A1 N p0 j9 n9 (v9.1 ++ (([v12] : List Int)), (wI .i64 (v9.2 + 1))))
   fun j12 =>
   (Bk p0.fc v9.2).bind fun v13 =>
   (AS N v13).bind fun v14 =>
   AJ v14
    ((Bk p0.fc v9.2).bind fun v16 =>
    (Bk p0.fk v16.fj).bind fun v17 =>
    (E7 (0 ≤ v17)).bind fun _ =>
    j12 (DE .u8 1 v17))
    (j12 0))
   (j9 v9.1)
def CN (N : Nat) (p0 : Aa) : Option (Ae × Int) :=
 (Br N p0).bind fun v1 =>
 AJ ((v1 != 0))
  (some ((Ae.mk (([] : List Int)) (([] : List Int)) (([] : List Int))), v1))
  (BC N p0 (fun (v4 : (List Int) × (List Int)) =>
   A1 N p0 (fun (v10 : (List Int)) =>
    some ((Ae.mk v4.1 v4.2 v10), 0)) N (([] : List Int), 0)) N (([] : List Int), ([] : List Int), 0))
def B6 (_ : Nat) (p0 : Ae) (p1 : Int) : Option Int :=
 (Bk p0.fh p1).bind fun v1 =>
 (E7 (0 ≤ v1)).bind fun _ =>
 AZ (fun (v3 : Int) =>
  some v3)
 fun j3 =>
 (Bk p0.ff p1).bind fun v4 =>
 AJ ((decide (0 ≤ v4)))
  ((Bk p0.ff p1).bind fun v6 =>
  (E7 (0 ≤ v6)).bind fun _ =>
  j3 (Le .u8 ((DE .u8 1 v1)) ((DE .u8 1 v6))))
  (j3 (DE .u8 1 v1))
def BE (N : Nat) (p0 : Aa) (p1 : Ae) (j7 : Unit → Option Int) : Nat → Int → Option Int
 | 0, _ => none
 | n7 + 1, v7 =>
  AJ ((decide (v7 < (p0.fb.length : Int))))
   (AZ (fun (v10 : Bool) =>
    AJ v10
     (some 7)
     ((Bk p1.fh v7).bind fun v21 =>
     (Bk p1.ff v7).bind fun v22 =>
     AJ ((v21 == v22))
      (some 1)
      (BE N p0 p1 j7 n7 (wI .i64 (v7 + 1)))))
   fun j10 =>
   (Bk p1.fh v7).bind fun v11 =>
   AJ ((decide (v11 < 0)))
    (j10 true)
    ((Bk p1.fh v7).bind fun v13 =>
    (Bk p0.fb v7).bind fun v14 =>
    AJ ((decide (v14 ≤ v13)))
     (j10 true)
     ((Bk p1.ff v7).bind fun v16 =>
     AJ ((decide (v16 < (-1))))
      (j10 true)
      ((Bk p1.ff v7).bind fun v18 =>
      (Bk p0.fb v7).bind fun v19 =>
      j10 (decide (v19 ≤ v18))))))
   (j7 ())
def Bu (N : Nat) (p0 : Aa) (p1 : Ae) (j24 : Unit → Option Int) : Nat → Int → Option Int
 | 0, _ => none
 | n24 + 1, v24 =>
  AJ ((decide (v24 < (p0.fc.length : Int))))
   ((Bk p0.fc v24).bind fun v27 =>
   (Bk p0.fb v27.fj).bind fun v28 =>
   (E7 (0 ≤ v28)).bind fun _ =>
   AZ (fun (v30 : Bool) =>
    AJ v30
     (some 1)
     (Bu N p0 p1 j24 n24 (wI .i64 (v24 + 1))))
   fun j30 =>
   (AS N v27).bind fun v31 =>
   AJ ((!v31))
    ((Bk p1.fg v24).bind fun v33 =>
    AJ ((v33 != 0))
     (j30 true)
     ((AS N v27).bind fun v35 =>
     AJ v35
      ((Bk p1.fg v24).bind fun v37 =>
      AJ (((Cr .u8 v37 ((wI .u8 ((DE .u8 1 v28) - 1)))) != 0))
       (j30 true)
       ((B6 N p1 v27.fj).bind fun v39 =>
       (Bk p1.fg v24).bind fun v40 =>
       j30 ((Cr .u8 v39 v40) != 0)))
      (j30 false)))
    ((AS N v27).bind fun v41 =>
    AJ v41
     ((Bk p1.fg v24).bind fun v43 =>
     AJ (((Cr .u8 v43 ((wI .u8 ((DE .u8 1 v28) - 1)))) != 0))
      (j30 true)
      ((B6 N p1 v27.fj).bind fun v45 =>
      (Bk p1.fg v24).bind fun v46 =>
      j30 ((Cr .u8 v45 v46) != 0)))
     (j30 false)))
   (j24 ())
def CQ (N : Nat) (p0 : Aa) (p1 : Ae) : Option Int :=
 (Br N p0).bind fun v1 =>
 AJ ((v1 != 0))
  (some v1)
  (AZ (fun (v3 : Bool) =>
   AJ v3
    (some 6)
    (BE N p0 p1 (fun (_ : Unit) =>
     Bu N p0 p1 (fun (_ : Unit) =>
      some 0) N 0) N 0))
  fun j3 =>
  AJ (((p1.fh.length : Int) != (p0.fb.length : Int)))
   (j3 true)
   (AJ (((p1.ff.length : Int) != (p0.fb.length : Int)))
    (j3 true)
    (j3 ((p1.fg.length : Int) != (p0.fc.length : Int)))))
def DB (_ : Nat) (p0 : Am) : Option Bool :=
 AZ (fun (v1 : Bool) =>
  some v1)
 fun j1 =>
 AJ ((decide (1 ≤ p0.fa)))
  (AJ ((decide (p0.fa ≤ 4)))
   (AJ ((decide (0 ≤ p0.fm)))
    (AJ ((decide (0 ≤ p0.fq)))
     (AJ ((p0.fa == 1))
      (j1 true)
      (j1 (p0.fq == 0)))
     (j1 false))
    (j1 false))
   (j1 false))
  (j1 false)
def Ck (_ : Nat) (p0 : Int) (p1 : Int) : Option Bool :=
 (E7 (0 ≤ p1)).bind fun _ =>
 some (((Ft .u8 ((FG .u8 p0 p1)) 1) == 1))
def Bv (N : Nat) (p0 : Aa) (p2 : Am) (j12 : ((List Int)) → Option (Ae × Bool)) : Nat → ((List Int) × Int) → Option (Ae × Bool)
 | 0, _ => none
 | n12 + 1, v12 =>
  AJ ((decide (v12.2 < (p0.fc.length : Int))))
   (AZ (fun (v15 : (List Int)) =>
    Bv N p0 p2 j12 n12 (v15, (wI .i64 (v12.2 + 1))))
   fun j15 =>
   AZ (fun (v16 : Bool) =>
    AJ v16
     ((Bk v12.1 v12.2).bind fun v22 =>
     (E7 (0 ≤ p2.fq)).bind fun _ =>
     (Bk v12.1 v12.2).bind fun _ =>
     j15 (v12.1.set ((v12.2).toNat) ((Le .u8 v22 ((DE .u8 1 p2.fq))))))
     (j15 v12.1))
   fun j16 =>
   (Bk p0.fc v12.2).bind fun v17 =>
   AJ ((v17.fj == p2.fm))
    ((Bk p0.fc v12.2).bind fun v19 =>
    (AS N v19).bind fun v20 =>
    j16 v20)
    (j16 false))
   (j12 v12.1)
def Bf (N : Nat) (p0 : Aa) (p1 : Ae) (p2 : Am) (v32 : AK) (v35 : Int) (j38 : Unit → Option (Ae × Bool)) : Nat → Int → Option (Ae × Bool)
 | 0, _ => none
 | n38 + 1, v38 =>
  (Bk p0.fb v32.fj).bind fun v40 =>
  AJ ((decide (v38 < v40)))
   (AZ (fun (v42 : Bool) =>
    AZ (fun (v47 : Bool) =>
     AJ v47
      (some ((Ae.mk (([] : List Int)) (([] : List Int)) (([] : List Int))), false))
      (Bf N p0 p1 p2 v32 v35 j38 n38 (wI .i64 (v38 + 1))))
    fun j47 =>
    AJ v42
     (AJ ((v32.fa == 4))
      ((Bk v32.fy v38).bind fun v50 =>
      (Bk p1.fh v32.fj).bind fun v51 =>
      (Bk v50 v51).bind fun v52 =>
      j47 (!v52))
      (j47 false))
     (j47 false))
   fun j42 =>
   (Bk p1.fg p2.fm).bind fun v43 =>
   (Ck N v43 v38).bind fun v44 =>
   AJ v44
    ((Ck N v35 v38).bind fun v46 =>
    j42 (!v46))
    (j42 false))
   (j38 ())
def Bt (N : Nat) (p0 : Aa) (p1 : Ae) (p2 : Am) : Option (Ae × Bool) :=
 (E7 ((([] : List Int)).length + p1.fh.length ≤ Hn)).bind fun _ =>
 (E7 ((([] : List Int)).length + p1.ff.length ≤ Hn)).bind fun _ =>
 (E7 ((([] : List Int)).length + p1.fg.length ≤ Hn)).bind fun _ =>
 AZ (fun (v4 : (List Int) × (List Int) × (List Int)) =>
  some ((Ae.mk v4.1 v4.2.1 v4.2.2), true))
 fun j4 =>
 AJ ((p2.fa == 1))
  (AZ (fun (v6 : Bool) =>
   AJ v6
    (some ((Ae.mk (([] : List Int)) (([] : List Int)) (([] : List Int))), false))
    ((Bk ((([] : List Int)) ++ p1.ff) p2.fm).bind fun _ =>
    Bv N p0 p2 (fun (v13 : (List Int)) =>
     j4 ((([] : List Int)) ++ p1.fh, ((([] : List Int)) ++ p1.ff).set ((p2.fm).toNat) p2.fq, v13)) N ((([] : List Int)) ++ p1.fg, 0)))
  fun j6 =>
  (Bk p1.ff p2.fm).bind fun v7 =>
  AJ ((decide (0 ≤ v7)))
   (j6 true)
   ((Bk p1.fh p2.fm).bind fun v9 =>
   j6 (p2.fq == v9)))
  (AJ ((p2.fa == 2))
   ((Bk p1.ff p2.fm).bind fun v26 =>
   AJ ((decide (v26 < 0)))
    (some ((Ae.mk (([] : List Int)) (([] : List Int)) (([] : List Int))), false))
    ((Bk p1.ff p2.fm).bind fun v28 =>
    (Bk ((([] : List Int)) ++ p1.fh) p2.fm).bind fun _ =>
    (Bk ((([] : List Int)) ++ p1.ff) p2.fm).bind fun _ =>
    j4 (((([] : List Int)) ++ p1.fh).set ((p2.fm).toNat) v28, ((([] : List Int)) ++ p1.ff).set ((p2.fm).toNat) ((-1)), (([] : List Int)) ++ p1.fg)))
   (AJ ((p2.fa == 3))
    ((Bk p0.fc p2.fm).bind fun v32 =>
    (AS N v32).bind fun v33 =>
    AJ ((!v33))
     (some ((Ae.mk (([] : List Int)) (([] : List Int)) (([] : List Int))), false))
     ((B6 N p1 v32.fj).bind fun v35 =>
     (Bk p1.fg p2.fm).bind fun v36 =>
     AJ ((v36 == v35))
      (some ((Ae.mk (([] : List Int)) (([] : List Int)) (([] : List Int))), false))
      (Bf N p0 p1 p2 v32 v35 (fun (_ : Unit) =>
       (Bk ((([] : List Int)) ++ p1.fg) p2.fm).bind fun _ =>
       j4 ((([] : List Int)) ++ p1.fh, (([] : List Int)) ++ p1.ff, ((([] : List Int)) ++ p1.fg).set ((p2.fm).toNat) v35)) N 0)))
    ((Bk p1.ff p2.fm).bind fun v55 =>
    AJ ((decide (v55 < 0)))
     (some ((Ae.mk (([] : List Int)) (([] : List Int)) (([] : List Int))), false))
     ((Bk ((([] : List Int)) ++ p1.ff) p2.fm).bind fun _ =>
     j4 ((([] : List Int)) ++ p1.fh, ((([] : List Int)) ++ p1.ff).set ((p2.fm).toNat) ((-1)), (([] : List Int)) ++ p1.fg)))))
def Dz (N : Nat) (p0 : Aa) (p1 : Ae) (p2 : Am) : Option (Ae × Int) :=
 (CQ N p0 p1).bind fun v1 =>
 AJ ((v1 != 0))
  (some ((Ae.mk (([] : List Int)) (([] : List Int)) (([] : List Int))), v1))
  ((DB N p2).bind fun v3 =>
  AJ ((!v3))
   (some ((Ae.mk (([] : List Int)) (([] : List Int)) (([] : List Int))), 1))
   (AZ (fun (v5 : Bool) =>
    AJ v5
     (some ((Ae.mk (([] : List Int)) (([] : List Int)) (([] : List Int))), 4))
     (AZ (fun (v11 : Bool) =>
      AJ v11
       (some ((Ae.mk (([] : List Int)) (([] : List Int)) (([] : List Int))), 4))
       ((Bt N p0 p1 p2).bind fun v15 =>
       AJ ((!v15.2))
        (some ((Ae.mk (([] : List Int)) (([] : List Int)) (([] : List Int))), 11))
        (some (v15.1, 0))))
     fun j11 =>
     AJ ((p2.fa == 1))
      ((Bk p0.fb p2.fm).bind fun v13 =>
      j11 (decide (v13 ≤ p2.fq)))
      (j11 false)))
   fun j5 =>
   AJ ((p2.fa == 3))
    (AJ ((decide ((p0.fc.length : Int) ≤ p2.fm)))
     (j5 true)
     (AJ ((p2.fa != 3))
      (j5 (decide ((p0.fb.length : Int) ≤ p2.fm)))
      (j5 false)))
    (AJ ((p2.fa != 3))
     (j5 (decide ((p0.fb.length : Int) ≤ p2.fm)))
     (j5 false))))
def Cy (N : Nat) (p0 : Aa) (p2 : List Am) (j3 : ((List Ae)) → Option ((List Ae) × Int × Int)) : Nat → ((List Ae) × Int) → Option ((List Ae) × Int × Int)
 | 0, _ => none
 | n3 + 1, v3 =>
  AJ ((decide (v3.2 < (p2.length : Int))))
   ((Bk v3.1 v3.2).bind fun v6 =>
   (Bk p2 v3.2).bind fun v7 =>
   (Dz N p0 v6 v7).bind fun v8 =>
   AJ ((v8.2 != 0))
    (some (([] : List Ae), v3.2, v8.2))
    ((E7 (v3.1.length + (([v8.1] : List Ae)).length ≤ Hn)).bind fun _ =>
    Cy N p0 p2 j3 n3 (v3.1 ++ (([v8.1] : List Ae)), (wI .i64 (v3.2 + 1)))))
   (j3 v3.1)
def Dk (N : Nat) (p0 : Aa) (p1 : Ae) (p2 : List Am) : Option ((List Ae) × Int × Int) :=
 (CQ N p0 p1).bind fun v1 =>
 AJ ((v1 != 0))
  (some (([] : List Ae), 0, v1))
  (Cy N p0 p2 (fun (v4 : (List Ae)) =>
   some (v4, (p2.length : Int), 0)) N (([p1] : List Ae), 0))
def Cg (N : Nat) (p1 : List Am) (j3 : Unit → Option Int) : Nat → Int → Option Int
 | 0, _ => none
 | n3 + 1, v3 =>
  AJ ((decide (v3 < (p1.length : Int))))
   ((Bk p1 v3).bind fun v6 =>
   AJ ((v6.fa == 4))
    (some 1)
    (Cg N p1 j3 n3 (wI .i64 (v3 + 1))))
   (j3 ())
def Do (N : Nat) (p0 : Aa) (p1 : List Am) : Option Int :=
 (CN N p0).bind fun v1 =>
 AJ ((v1.2 != 0))
  (some v1.2)
  (Cg N p1 (fun (_ : Unit) =>
   (Dk N p0 v1.1 p1).bind fun v8 =>
   some v8.2.2) N 0)
def CB (_ : Nat) (p0 : Ac) : Option ((List Int)) :=
 AJ ((p0.fa == 1))
  (some (([p0.fv, p0.fw, p0.fC] : List Int)))
  (AJ ((p0.fa == 6))
   (some (([p0.ft, p0.fq, p0.fD] : List Int)))
   (AJ ((p0.fa == 7))
    (some (([p0.fM, p0.fu] : List Int)))
    (some (([p0.fm, p0.fu] : List Int)))))
def Ct (_ : Nat) (p0 : Int) (p1 : Int) (p2 : List Int) : Option Ac :=
 AZ (fun (v1 : Int × Int × Int × Int × Int × Int × Int × Int × Int) =>
  some ((Ac.mk p0 p1 v1.1 v1.2.1 v1.2.2.1 v1.2.2.2.1 v1.2.2.2.2.1 v1.2.2.2.2.2.1 v1.2.2.2.2.2.2.1 v1.2.2.2.2.2.2.2.1 v1.2.2.2.2.2.2.2.2)))
 fun j1 =>
 AJ ((p1 == 1))
  ((Bk p2 0).bind fun v3 =>
  (Bk p2 1).bind fun v4 =>
  (Bk p2 2).bind fun v5 =>
  j1 (v3, v4, v5, 0, 0, 0, 0, 0, 0))
  (AJ ((p1 == 6))
   ((Bk p2 0).bind fun v7 =>
   (Bk p2 1).bind fun v8 =>
   (Bk p2 2).bind fun v9 =>
   j1 (0, 0, 0, 0, 0, v9, v7, v8, 0))
   (AJ ((p1 == 7))
    ((Bk p2 0).bind fun v11 =>
    (Bk p2 1).bind fun v12 =>
    j1 (0, 0, 0, 0, v12, 0, 0, 0, v11))
    ((Bk p2 0).bind fun v13 =>
    (Bk p2 1).bind fun v14 =>
    j1 (0, 0, 0, v13, v14, 0, 0, 0, 0))))
def BX (N : Nat) (v5 : (List Int)) (j6 : Unit → Option Bool) : Nat → Int → Option Bool
 | 0, _ => none
 | n6 + 1, v6 =>
  AJ ((decide (v6 < (v5.length : Int))))
   ((Bk v5 v6).bind fun v9 =>
   AJ ((decide (v9 < 0)))
    (some false)
    (BX N v5 j6 n6 (wI .i64 (v6 + 1))))
   (j6 ())
def Dy (N : Nat) (p0 : Ac) : Option Bool :=
 AZ (fun (v1 : Bool) =>
  AJ v1
   (some false)
   ((CB N p0).bind fun v5 =>
   BX N v5 (fun (_ : Unit) =>
    (Ct N p0.fi p0.fa v5).bind fun v11 =>
    some (((v11.fi == p0.fi) && ((v11.fa == p0.fa) && ((v11.fv == p0.fv) && ((v11.fw == p0.fw) && ((v11.fC == p0.fC) && ((v11.fm == p0.fm) && ((v11.fu == p0.fu) && ((v11.fD == p0.fD) && ((v11.ft == p0.ft) && ((v11.fq == p0.fq) && ((v11.fM == p0.fM) && true))))))))))))) N 0))
 fun j1 =>
 AJ ((decide (p0.fa < 1)))
  (j1 true)
  (AJ ((decide (7 < p0.fa)))
   (j1 true)
   (j1 (decide (p0.fi < 0))))
def Ce (N : Nat) (p0 : List Ac) (j2 : Unit → Option Int) : Nat → Int → Option Int
 | 0, _ => none
 | n2 + 1, v2 =>
  AJ ((decide (v2 < (p0.length : Int))))
   (AZ (fun (v5 : Bool) =>
    AJ v5
     (some 1)
     (Ce N p0 j2 n2 (wI .i64 (v2 + 1))))
   fun j5 =>
   (Bk p0 v2).bind fun v6 =>
   (Dy N v6).bind fun v7 =>
   AJ ((!v7))
    (j5 true)
    (AJ ((decide (0 < v2)))
     ((Bk p0 v2).bind fun v10 =>
     (Bk p0 ((wI .i64 (v2 - 1)))).bind fun v11 =>
     j5 (decide (v10.fi < v11.fi)))
     (j5 false)))
   (j2 ())
def Dv (N : Nat) (p0 : List Ac) : Option Int :=
 AJ ((decide (10000 < (p0.length : Int))))
  (some 3)
  (Ce N p0 (fun (_ : Unit) =>
   some 0) N 0)
def Dw (N : Nat) (p0 : Aa) (p1 : List Int) (p2 : List Am) (p3 : List Ac) : Option Int :=
 (C2 N p0 p1).bind fun v1 =>
 AJ ((v1 != 0))
  (some v1)
  ((Do N p0 p2).bind fun v3 =>
  AJ ((v3 != 0))
   (some v3)
   ((Dv N p3).bind fun v5 =>
   some v5))
def D7 (N : Nat) (p0 : Aa) : Option AL :=
 (CN N p0).bind fun v1 =>
 some ((AL.mk 0 false false v1.1))
def CZ (_ : Nat) (p0 : Ac) : Option Bool :=
 AZ (fun (v1 : Bool) =>
  some v1)
 fun j1 =>
 AJ ((decide (2 ≤ p0.fa)))
  (j1 (decide (p0.fa ≤ 5)))
  (j1 false)
def CP (N : Nat) (p0 : Aa) (p1 : List Am) (p2 : AL) (p3 : Ac) : Option (AL × Bool) :=
 (CZ N p3).bind fun v1 =>
 AJ ((!v1))
  (some ((AL.mk p2.fi p2.fK p2.fJ ((Ae.mk p2.fe.fh p2.fe.ff p2.fe.fg))), true))
  (AZ (fun (v3 : Bool) =>
   AJ v3
    (some ((AL.mk p2.fi p2.fK p2.fJ ((Ae.mk p2.fe.fh p2.fe.ff p2.fe.fg))), false))
    ((Bk p1 p2.fi).bind fun v6 =>
    AZ (fun (v7 : Int × Bool × Bool × (List Int) × (List Int) × (List Int)) =>
     some ((AL.mk v7.1 v7.2.1 v7.2.2.1 ((Ae.mk v7.2.2.2.1 v7.2.2.2.2.1 v7.2.2.2.2.2))), true))
    fun j7 =>
    AZ (fun (v8 : Bool) =>
     AJ v8
      (AJ ((v6.fa == 1))
       ((Bt N p0 ((Ae.mk p2.fe.fh p2.fe.ff p2.fe.fg)) v6).bind fun v13 =>
       j7 (p2.fi, true, p2.fJ, v13.1.fh, v13.1.ff, v13.1.fg))
       (j7 (p2.fi, true, p2.fJ, p2.fe.fh, p2.fe.ff, p2.fe.fg)))
      (AZ (fun (v14 : Bool) =>
       AJ v14
        (AJ ((v6.fa != 1))
         ((Bt N p0 ((Ae.mk p2.fe.fh p2.fe.ff p2.fe.fg)) v6).bind fun v18 =>
         j7 ((wI .i64 (p2.fi + 1)), false, p2.fJ, v18.1.fh, v18.1.ff, v18.1.fg))
         (j7 ((wI .i64 (p2.fi + 1)), false, p2.fJ, p2.fe.fh, p2.fe.ff, p2.fe.fg)))
        (AZ (fun (v19 : Bool) =>
         AJ v19
          (j7 (p2.fi, false, true, p2.fe.fh, p2.fe.ff, p2.fe.fg))
          (AZ (fun (v23 : Bool) =>
           AJ v23
            ((Bt N p0 ((Ae.mk p2.fe.fh p2.fe.ff p2.fe.fg)) ((Am.mk 4 v6.fm 0))).bind fun v26 =>
            j7 (p2.fi, p2.fK, false, v26.1.fh, v26.1.ff, v26.1.fg))
            (some ((AL.mk p2.fi p2.fK p2.fJ ((Ae.mk p2.fe.fh p2.fe.ff p2.fe.fg))), false)))
          fun j23 =>
          AJ ((p3.fa == 5))
           (j23 p2.fJ)
           (j23 false)))
        fun j19 =>
        AJ ((p3.fa == 4))
         (AJ p2.fK
          (j19 (v6.fa == 1))
          (j19 false))
         (j19 false)))
      fun j14 =>
      AJ ((p3.fa == 3))
       (j14 p2.fK)
       (j14 false)))
    fun j8 =>
    AJ ((p3.fa == 2))
     (AJ ((!p2.fK))
      (j8 (!p2.fJ))
      (j8 false))
     (j8 false)))
  fun j3 =>
  AJ ((p3.fm != p2.fi))
   (j3 true)
   (j3 (decide ((p1.length : Int) ≤ p2.fi))))
def Cu (_ : Nat) (p0 : Aa) (p1 : Ac) : Option Bool :=
 AJ ((p1.fa != 1))
  (some false)
  (AJ ((decide ((p0.fc.length : Int) ≤ p1.fv)))
   (some true)
   ((Bk p0.fc p1.fv).bind fun v3 =>
   AZ (fun (v4 : Bool) =>
    some v4)
   fun j4 =>
   (Bk p0.fb v3.fj).bind fun v5 =>
   AJ ((decide (v5 ≤ p1.fw)))
    (j4 true)
    ((Bk p0.fb v3.fA).bind fun v7 =>
    AJ ((decide (v7 ≤ p1.fC)))
     (j4 true)
     ((Bk v3.fE p1.fw).bind fun v9 =>
     (Bk v9 p1.fC).bind fun v10 =>
     j4 (!v10)))))
def Cf (N : Nat) (p0 : List Ac) (p1 : Ac) (j1 : Unit → Option Bool) : Nat → Int → Option Bool
 | 0, _ => none
 | n1 + 1, v1 =>
  AJ ((decide (v1 < (p0.length : Int))))
   ((Bk p0 v1).bind fun v4 =>
   AZ (fun (v5 : Bool) =>
    AJ v5
     (some true)
     (AZ (fun (v11 : Bool) =>
      AJ v11
       (some true)
       (AZ (fun (v16 : Bool) =>
        AJ v16
         (some true)
         (Cf N p0 p1 j1 n1 (wI .i64 (v1 + 1))))
       fun j16 =>
       AJ ((v4.fa == 7))
        (AJ ((p1.fa == 7))
         (j16 (decide (p1.fu ≤ v4.fu)))
         (j16 false))
        (j16 false)))
     fun j11 =>
     AJ ((v4.fa == 6))
      (AJ ((p1.fa == 6))
       (AJ ((p1.ft == v4.ft))
        (j11 (decide (p1.fD < v4.fD)))
        (j11 false))
       (j11 false))
      (j11 false)))
   fun j5 =>
   (CZ N v4).bind fun v6 =>
   AJ v6
    ((CZ N p1).bind fun v8 =>
    AJ v8
     (j5 (decide (p1.fu < v4.fu)))
     (j5 false))
    (j5 false))
   (j1 ())
def Dq (N : Nat) (p0 : List Ac) (p1 : Ac) : Option Bool :=
 Cf N p0 p1 (fun (_ : Unit) =>
  some false) N 0
def B2 (N : Nat) (p0 : List Int) (j1 : Unit → Option Int) : Nat → (Int × Int) → Option Int
 | 0, _ => none
 | n1 + 1, v1 =>
  AJ ((decide (v1.2 < (p0.length : Int))))
   ((Bk p0 v1.2).bind fun v4 =>
   AJ ((decide (v1.1 < v4)))
    (some v1.2)
    ((Bk p0 v1.2).bind fun v6 =>
    B2 N p0 j1 n1 ((wI .i64 (v1.1 - v6)), (wI .i64 (v1.2 + 1)))))
   (j1 ())
def Cq (N : Nat) (p0 : List Int) (p1 : Int) : Option Int :=
 B2 N p0 (fun (_ : Unit) =>
  some ((-1))) N (p1, 0)
def Bg (_ : Nat) (p0 : Ae) (p1 : Int) (p2 : Int) : Option Bool :=
 AZ (fun (v1 : Bool) =>
  some v1)
 fun j1 =>
 AJ ((decide (0 ≤ p2)))
  ((Bk p0.fh p1).bind fun v3 =>
  AJ ((p2 == v3))
   (j1 true)
   ((Bk p0.ff p1).bind fun v5 =>
   j1 (p2 == v5)))
  (j1 false)
def C5 (N : Nat) (p0 : Aa) (p1 : List Int) (p2 : AL) (p3 : Bool) (p4 : List Ac) (p5 : Ac) : Option Int :=
 (Cu N p0 p5).bind fun v1 =>
 AJ v1
  (some 1)
  (AJ ((!p3))
   (some 2)
   ((Dq N p4 p5).bind fun v4 =>
   AJ v4
    (some 3)
    (AZ (fun (_ : Unit) =>
     AZ (fun (_ : Unit) =>
      some 0)
     fun j13 =>
     AJ ((p5.fa == 1))
      ((Bk p0.fc p5.fv).bind fun v15 =>
      (Bg N ((Ae.mk p2.fe.fh p2.fe.ff p2.fe.fg)) v15.fj p5.fw).bind fun v16 =>
      AZ (fun (v17 : Bool) =>
       AZ (fun (v22 : Bool) =>
        AJ v22
         (some 5)
         (j13 ()))
       fun j22 =>
       AJ ((!v17))
        (j22 true)
        ((Bg N ((Ae.mk p2.fe.fh p2.fe.ff p2.fe.fg)) v15.fA p5.fC).bind fun v24 =>
        j22 (!v24)))
      fun j17 =>
      (AS N v15).bind fun v18 =>
      AJ v18
       ((Bk p2.fe.fg p5.fv).bind fun v20 =>
       (Ck N v20 p5.fw).bind fun v21 =>
       j17 v21)
       (j17 v16))
      (j13 ()))
    fun j6 =>
    AJ ((p5.fa == 6))
     ((Cq N p1 p5.ft).bind fun v8 =>
     AZ (fun (v9 : Bool) =>
      AJ v9
       (some 4)
       (j6 ()))
     fun j9 =>
     AJ ((decide (v8 < 0)))
      (j9 true)
      ((Bg N ((Ae.mk p2.fe.fh p2.fe.ff p2.fe.fg)) v8 p5.fq).bind fun v11 =>
      j9 (!v11)))
     (j6 ()))))
def Cd (N : Nat) (p0 : Aa) (p1 : List Int) (p2 : List Am) (p3 : List Ac) (j4 : Unit → Option (Int × Int × Int)) : Nat → (Int × Bool × Bool × (List Int) × (List Int) × (List Int) × Int) → Option (Int × Int × Int)
 | 0, _ => none
 | n4 + 1, v4 =>
  AJ ((decide (v4.2.2.2.2.2.2 < (p3.length : Int))))
   ((Bk p3 v4.2.2.2.2.2.2).bind fun v7 =>
   (CP N p0 p2 ((AL.mk v4.1 v4.2.1 v4.2.2.1 ((Ae.mk v4.2.2.2.1 v4.2.2.2.2.1 v4.2.2.2.2.2.1)))) v7).bind fun v8 =>
   (E7 ((0 : Int) ≤ v4.2.2.2.2.2.2 ∧ 0 ≤ (v4.2.2.2.2.2.2).toNat ∧ (v4.2.2.2.2.2.2).toNat ≤ p3.length)).bind fun _ =>
   (Bk p3 v4.2.2.2.2.2.2).bind fun v10 =>
   (C5 N p0 p1 ((AL.mk v4.1 v4.2.1 v4.2.2.1 ((Ae.mk v4.2.2.2.1 v4.2.2.2.2.1 v4.2.2.2.2.2.1)))) v8.2 (((p3.drop 0).take ((v4.2.2.2.2.2.2).toNat - 0))) v10).bind fun v11 =>
   AJ ((v11 != 0))
    (some (v4.2.2.2.2.2.2, v11, 0))
    (Cd N p0 p1 p2 p3 j4 n4 (v8.1.fi, v8.1.fK, v8.1.fJ, v8.1.fe.fh, v8.1.fe.ff, v8.1.fe.fg, (wI .i64 (v4.2.2.2.2.2.2 + 1)))))
   (j4 ())
def CT (N : Nat) (p0 : Aa) (p1 : List Int) (p2 : List Am) (p3 : List Ac) : Option (Int × Int × Int) :=
 (Dw N p0 p1 p2 p3).bind fun v1 =>
 AJ ((v1 != 0))
  (some (0, 0, v1))
  ((D7 N p0).bind fun v3 =>
  Cd N p0 p1 p2 p3 (fun (_ : Unit) =>
   some (0, 0, 15)) N (v3.fi, v3.fK, v3.fJ, v3.fe.fh, v3.fe.ff, v3.fe.fg, 0))
def Cs (N : Nat) (p0 : BU) : Option Bool :=
 AZ (fun (v1 : Bool) =>
  AJ v1
   ((Dn N).bind fun v6 =>
   some v6)
   ((Bx N p0.fO).bind fun v7 =>
   (Dt N ((Aa.mk p0.fd.fb p0.fd.fk p0.fd.fp p0.fd.fc)) p0.fQ p0.fr v7).bind fun v8 =>
   (CT N ((Aa.mk p0.fd.fb p0.fd.fk p0.fd.fp p0.fd.fc)) p0.fQ p0.fr p0.fO).bind fun v9 =>
   AZ (fun (v10 : Bool) =>
    some v10)
   fun j10 =>
   AJ ((v8.1 == v9.1))
    (AJ ((v8.2.1 == v9.2.1))
     (j10 (v8.2.2 == v9.2.2))
     (j10 false))
    (j10 false)))
 fun j1 =>
 (Dn N).bind fun v2 =>
 AJ ((!v2))
  (j1 true)
  ((Ci N ((BU.mk ((Aa.mk p0.fd.fb p0.fd.fk p0.fd.fp p0.fd.fc)) p0.fQ p0.fr p0.fO))).bind fun v4 =>
  j1 (!v4))
def KW {α : Type} (w : α → Prop) (xs : List α) : Prop := ∀ x, x ∈ xs → w x
def GD (n : Int) : Prop := (Lit.int .i64 n).wf = true
def Q7 (n : Int) : Prop := (Lit.int .u8 n).wf = true
def Kz (x : AK) : Prop := GD x.fa ∧ GD x.fj ∧ GD x.fA ∧ (fun _ => True) x.fN ∧ (KW (KW (fun _ => True))) x.fE ∧ (KW (KW (fun _ => True))) x.fy ∧ True
def KR (x : Aa) : Prop := (KW GD) x.fb ∧ (KW GD) x.fk ∧ (KW GD) x.fp ∧ (KW Kz) x.fc ∧ True
def LV (x : Am) : Prop := GD x.fa ∧ GD x.fm ∧ GD x.fq ∧ True
def I2 (x : Ac) : Prop := GD x.fi ∧ GD x.fa ∧ GD x.fv ∧ GD x.fw ∧ GD x.fC ∧ GD x.fm ∧ GD x.fu ∧ GD x.fD ∧ GD x.ft ∧ GD x.fq ∧ GD x.fM ∧ True
def Fr (x : BU) : Prop := KR x.fd ∧ (KW GD) x.fQ ∧ (KW LV) x.fr ∧ (KW I2) x.fO ∧ True
open Go.RowKit
open Go.Proofs
abbrev CC (x : AK) : List C := [iC x.fa, iC x.fj, iC x.fA, .pure (.val (.bool x.fN)), sC (x.fE.map (Lq eB)), sC (x.fy.map (Lq eB))]
abbrev Ak (x : Aa) : List C := [sC (x.fb.map As), sC (x.fk.map As), sC (x.fp.map As), sC (x.fc.map BD)]
abbrev BQ (x : Am) : List C := [iC x.fa, iC x.fm, iC x.fq]
abbrev AM (x : Ac) : List C := [iC x.fi, iC x.fa, iC x.fv, iC x.fw, iC x.fC, iC x.fm, iC x.fu, iC x.fD, iC x.ft, iC x.fq, iC x.fM]
abbrev GF (x : BU) : List C := [sC (x.fd.fb.map As), sC (x.fd.fk.map As), sC (x.fd.fp.map As), sC (x.fd.fc.map BD), sC (x.fQ.map As), sC (x.fr.map AP), sC (x.fO.map AG)]
abbrev Bh (x : Ae) : List C := [sC (x.fh.map As), sC (x.ff.map As), sC (x.fg.map Dm)]
abbrev Az (x : Ai) : List C := [sC (x.fd.fb.map As), sC (x.fd.fk.map As), sC (x.fd.fp.map As), sC (x.fd.fc.map BD), sC (x.fr.map AP), iC x.fi, iC x.fB, sC (x.fe.fh.map As), sC (x.fe.ff.map As), sC (x.fe.fg.map Dm)]
abbrev AQ (x : AL) : List C := [iC x.fi, .pure (.val (.bool x.fK)), .pure (.val (.bool x.fJ)), sC (x.fe.fh.map As), sC (x.fe.ff.map As), sC (x.fe.fg.map Dm)]
theorem Aw : Tryz.prog.follows .mixedOrders = true := by kernel_rfl
theorem wq {X : Gy} {y : Code} {id : Nat} {ops : Array Oper} {dr : Bool} {Q : Exit → St → Prop} {st : St} {n : Nat} (hn : ops.size = n) (h : A7 zA X ops dr (fun st' => W zA X y Q st') n 0 st []) : W zA X (.seq (.region id ops dr) y) Q st := XA Aw hn h
theorem wp {X : Gy} {y z : Code} {id : Nat} {ops : Array Oper} {dr : Bool} {Q : Exit → St → Prop} {st : St} {n : Nat} (hn : ops.size = n) (h : A7 zA X ops dr (fun st' => W zA X y (M7 (W zA X z Q) Q) st') n 0 st []) : W zA X (.seq (.seq (.region id ops dr) y) z) Q st := AR (XA Aw hn h)
theorem Fa : Eb zA 110 false = true := by kernel_rfl
theorem Eu : Eb zA 112 true = true := by kernel_rfl
theorem Hl : Eb zA 113 false = true := by kernel_rfl
theorem Jv : Eb zA 125 false = true := by kernel_rfl
theorem Ug : Eb zA 164 false = true := by kernel_rfl
theorem Ho : Eb zA 2 false = true := by kernel_rfl
theorem Bd : Eb zA 22 false = true := by kernel_rfl
theorem EK : Eb zA 23 false = true := by kernel_rfl
theorem DG : Eb zA 25 true = true := by kernel_rfl
theorem Rh : Eb zA 26 false = true := by kernel_rfl
theorem U5 : Eb zA 27 false = true := by kernel_rfl
theorem Xt : Eb zA 29 true = true := by kernel_rfl
theorem AW : Eb zA 3 false = true := by kernel_rfl
theorem E9 : Eb zA 37 true = true := by kernel_rfl
theorem GV : Eb zA 38 false = true := by kernel_rfl
theorem Qd : Eb zA 4 false = true := by kernel_rfl
theorem B0 : Eb zA 40 true = true := by kernel_rfl
theorem In : Eb zA 67 true = true := by kernel_rfl
theorem Lf : Eb zA 73 true = true := by kernel_rfl
theorem Xx : Eb zA 9 false = true := by kernel_rfl
theorem SI : RQ zA 209 8 9 = true := by kernel_rfl
theorem Oj : Gi zA 113 1 = true := by kernel_rfl
theorem Q8 : Gi zA 3 8 = true := by kernel_rfl
theorem VD : Gi zA 37 88 = true := by kernel_rfl
theorem Uc : Gi zA 40 72 = true := by kernel_rfl
theorem DX : Bn zA 112 0 0 = true := by kernel_rfl
theorem Cc : Bn zA 112 1 1 = true := by kernel_rfl
theorem FU : Bn zA 112 2 2 = true := by kernel_rfl
theorem OB : Bn zA 112 3 3 = true := by kernel_rfl
theorem Gx : Bn zA 112 4 4 = true := by kernel_rfl
theorem D8 : Bn zA 112 5 5 = true := by kernel_rfl
theorem Oq : Bn zA 166 0 0 = true := by kernel_rfl
theorem O9 : Bn zA 166 1 1 = true := by kernel_rfl
theorem OP : Bn zA 166 2 2 = true := by kernel_rfl
theorem OQ : Bn zA 166 3 3 = true := by kernel_rfl
theorem BB : Bn zA 25 0 0 = true := by kernel_rfl
theorem FO : Bn zA 25 1 1 = true := by kernel_rfl
theorem I0 : Bn zA 25 2 2 = true := by kernel_rfl
theorem BA : Bn zA 25 3 3 = true := by kernel_rfl
theorem NY : Bn zA 29 0 0 = true := by kernel_rfl
theorem N0 : Bn zA 29 1 4 = true := by kernel_rfl
theorem NU : Bn zA 29 2 5 = true := by kernel_rfl
theorem NN : Bn zA 29 3 6 = true := by kernel_rfl
theorem GW : Bn zA 37 0 0 = true := by kernel_rfl
theorem B8 : Bn zA 37 1 1 = true := by kernel_rfl
theorem Kg : Bn zA 37 10 10 = true := by kernel_rfl
theorem Fs : Bn zA 37 2 2 = true := by kernel_rfl
theorem Fp : Bn zA 37 3 3 = true := by kernel_rfl
theorem Gp : Bn zA 37 4 4 = true := by kernel_rfl
theorem IW : Bn zA 37 5 5 = true := by kernel_rfl
theorem Eg : Bn zA 37 6 6 = true := by kernel_rfl
theorem Hx : Bn zA 37 7 7 = true := by kernel_rfl
theorem Gn : Bn zA 37 8 8 = true := by kernel_rfl
theorem IX : Bn zA 37 9 9 = true := by kernel_rfl
theorem C4 : Bn zA 40 0 0 = true := by kernel_rfl
theorem BT : Bn zA 40 1 1 = true := by kernel_rfl
theorem CF : Bn zA 40 2 2 = true := by kernel_rfl
theorem C0 : Bn zA 67 0 0 = true := by kernel_rfl
theorem DK : Bn zA 67 1 1 = true := by kernel_rfl
theorem Fo : Bn zA 67 2 2 = true := by kernel_rfl
theorem JV : Bn zA 73 0 0 = true := by kernel_rfl
theorem I5 : Bn zA 73 1 1 = true := by kernel_rfl
theorem Lh : Bn zA 73 2 2 = true := by kernel_rfl
theorem Gt : Bn zA 73 3 3 = true := by kernel_rfl
theorem Ob : Bn zA 81 0 0 = true := by kernel_rfl
theorem N7 : Bn zA 81 1 4 = true := by kernel_rfl
theorem I4 : Bn zA 81 2 5 = true := by kernel_rfl
theorem Hr : Bn zA 81 3 6 = true := by kernel_rfl
theorem J3 : Bn zA 81 4 7 = true := by kernel_rfl
theorem Vk : Ay zA 101 = true := by kernel_rfl
theorem Qe : Ay zA 102 = true := by kernel_rfl
theorem Vu : Ay zA 103 = true := by kernel_rfl
theorem VX : Ay zA 106 = true := by kernel_rfl
theorem VZ : Ay zA 107 = true := by kernel_rfl
theorem VE : Ay zA 108 = true := by kernel_rfl
theorem Ws : Ay zA 109 = true := by kernel_rfl
theorem VH : Ay zA 11 = true := by kernel_rfl
theorem Vv : Ay zA 110 = true := by kernel_rfl
theorem V1 : Ay zA 111 = true := by kernel_rfl
theorem Vx : Ay zA 112 = true := by kernel_rfl
theorem V6 : Ay zA 113 = true := by kernel_rfl
theorem VA : Ay zA 114 = true := by kernel_rfl
theorem SG : Ay zA 115 = true := by kernel_rfl
theorem Wh : Ay zA 116 = true := by kernel_rfl
theorem Sl : Ay zA 117 = true := by kernel_rfl
theorem VT : Ay zA 118 = true := by kernel_rfl
theorem Uo : Ay zA 119 = true := by kernel_rfl
theorem Xf : Ay zA 12 = true := by kernel_rfl
theorem TY : Ay zA 120 = true := by kernel_rfl
theorem Wt : Ay zA 121 = true := by kernel_rfl
theorem VS : Ay zA 122 = true := by kernel_rfl
theorem Wp : Ay zA 123 = true := by kernel_rfl
theorem Ur : Ay zA 125 = true := by kernel_rfl
theorem V7 : Ay zA 127 = true := by kernel_rfl
theorem UP : Ay zA 13 = true := by kernel_rfl
theorem Xd : Ay zA 14 = true := by kernel_rfl
theorem Uq : Ay zA 143 = true := by kernel_rfl
theorem Vn : Ay zA 144 = true := by kernel_rfl
theorem Up : Ay zA 145 = true := by kernel_rfl
theorem WA : Ay zA 147 = true := by kernel_rfl
theorem Vr : Ay zA 148 = true := by kernel_rfl
theorem RO : Ay zA 149 = true := by kernel_rfl
theorem W9 : Ay zA 15 = true := by kernel_rfl
theorem Wg : Ay zA 150 = true := by kernel_rfl
theorem T6 : Ay zA 151 = true := by kernel_rfl
theorem TU : Ay zA 152 = true := by kernel_rfl
theorem TZ : Ay zA 153 = true := by kernel_rfl
theorem Uf : Ay zA 154 = true := by kernel_rfl
theorem VY : Ay zA 155 = true := by kernel_rfl
theorem Vo : Ay zA 156 = true := by kernel_rfl
theorem VO : Ay zA 157 = true := by kernel_rfl
theorem Xj : Ay zA 16 = true := by kernel_rfl
theorem Vy : Ay zA 173 = true := by kernel_rfl
theorem Wi : Ay zA 174 = true := by kernel_rfl
theorem Wn : Ay zA 175 = true := by kernel_rfl
theorem WC : Ay zA 176 = true := by kernel_rfl
theorem V2 : Ay zA 177 = true := by kernel_rfl
theorem V5 : Ay zA 178 = true := by kernel_rfl
theorem Vs : Ay zA 179 = true := by kernel_rfl
theorem WE : Ay zA 180 = true := by kernel_rfl
theorem Vz : Ay zA 189 = true := by kernel_rfl
theorem W0 : Ay zA 19 = true := by kernel_rfl
theorem WG : Ay zA 190 = true := by kernel_rfl
theorem VU : Ay zA 191 = true := by kernel_rfl
theorem VM : Ay zA 192 = true := by kernel_rfl
theorem Vt : Ay zA 193 = true := by kernel_rfl
theorem Ui : Ay zA 197 = true := by kernel_rfl
theorem VJ : Ay zA 198 = true := by kernel_rfl
theorem Wx : Ay zA 199 = true := by kernel_rfl
theorem Wq : Ay zA 200 = true := by kernel_rfl
theorem VG : Ay zA 22 = true := by kernel_rfl
theorem W5 : Ay zA 23 = true := by kernel_rfl
theorem Xs : Ay zA 33 = true := by kernel_rfl
theorem Xu : Ay zA 34 = true := by kernel_rfl
theorem Xm : Ay zA 35 = true := by kernel_rfl
theorem W6 : Ay zA 36 = true := by kernel_rfl
theorem WM : Ay zA 37 = true := by kernel_rfl
theorem WY : Ay zA 38 = true := by kernel_rfl
theorem WP : Ay zA 39 = true := by kernel_rfl
theorem WL : Ay zA 40 = true := by kernel_rfl
theorem UC : Ay zA 43 = true := by kernel_rfl
theorem Xa : Ay zA 44 = true := by kernel_rfl
theorem W3 : Ay zA 45 = true := by kernel_rfl
theorem WO : Ay zA 46 = true := by kernel_rfl
theorem Xo : Ay zA 47 = true := by kernel_rfl
theorem U2 : Ay zA 55 = true := by kernel_rfl
theorem OW : Ay zA 56 = true := by kernel_rfl
theorem UD : Ay zA 57 = true := by kernel_rfl
theorem Xg : Ay zA 58 = true := by kernel_rfl
theorem TG : Ay zA 59 = true := by kernel_rfl
theorem Xb : Ay zA 62 = true := by kernel_rfl
theorem Xh : Ay zA 63 = true := by kernel_rfl
theorem Xr : Ay zA 64 = true := by kernel_rfl
theorem W7 : Ay zA 66 = true := by kernel_rfl
theorem WT : Ay zA 67 = true := by kernel_rfl
theorem WV : Ay zA 70 = true := by kernel_rfl
theorem Xc : Ay zA 71 = true := by kernel_rfl
theorem Vw : Ay zA 72 = true := by kernel_rfl
theorem WR : Ay zA 73 = true := by kernel_rfl
theorem Wj : Ay zA 74 = true := by kernel_rfl
theorem UZ : Ay zA 75 = true := by kernel_rfl
theorem TO : Ay zA 76 = true := by kernel_rfl
theorem WQ : Ay zA 77 = true := by kernel_rfl
theorem U0 : Ay zA 78 = true := by kernel_rfl
theorem UN : Ay zA 79 = true := by kernel_rfl
theorem Th : Ay zA 80 = true := by kernel_rfl
theorem VF : Ay zA 81 = true := by kernel_rfl
theorem WD : Ay zA 82 = true := by kernel_rfl
theorem WW : Ay zA 83 = true := by kernel_rfl
theorem WK : Ay zA 86 = true := by kernel_rfl
theorem Xl : Ay zA 92 = true := by kernel_rfl
theorem T8 : N3 zA 214 .u64 = true := by kernel_rfl
theorem QC : N3 zA 234 .u64 = true := by kernel_rfl
theorem Qt : N3 zA 242 .u32 = true := by kernel_rfl
theorem Xy : N3 zA 3 .i64 = true := by kernel_rfl
theorem VI : Tryz.prog.underlying 3 = some (.int .i64) := by kernel_rfl
theorem Pw : Tryz.prog.underlying 164 = some (.map 3 3) := by kernel_rfl
theorem Vq : Gs zA 166 = some [(0, 1), (1, 1), (2, 1), (3, 1)] := by kernel_rfl
theorem W8 : Gs zA 25 = some [(0, 1), (1, 1), (2, 1), (3, 1)] := by kernel_rfl
theorem QR : Gs zA 37 = some [(0, 1), (1, 1), (2, 1), (3, 1), (4, 1), (5, 1), (6, 1), (7, 1), (8, 1), (9, 1), (10, 1)] := by kernel_rfl
theorem GS : Gs zA 40 = some [(0, 1), (1, 1), (2, 1)] := by kernel_rfl
theorem TF : Gs zA 67 = some [(0, 1), (1, 1), (2, 1)] := by kernel_rfl
theorem WS : Gs zA 73 = some [(0, 1), (1, 1), (2, 1), (3, 3)] := by kernel_rfl
theorem Wy : Gs zA 81 = some [(0, 4), (4, 1), (5, 1), (6, 1), (7, 3)] := by kernel_rfl
theorem T9 : Tn zA 37 = some [0, 0, 0, 0, 0, 0, 0, 0, 0, 0, 0] := by kernel_rfl
theorem DW : sliceB zA 110 125 = true := by kernel_rfl
theorem HI : sliceB zA 125 4 = true := by kernel_rfl
theorem HG : sliceB zA 135 40 = true := by kernel_rfl
theorem Co : sliceB zA 167 2 = true := by kernel_rfl
theorem AA : sliceB zA 22 3 = true := by kernel_rfl
theorem CR : sliceB zA 23 112 = true := by kernel_rfl
theorem GB : sliceB zA 26 67 = true := by kernel_rfl
theorem D0 : sliceB zA 27 37 = true := by kernel_rfl
theorem DQ : sliceB zA 38 113 = true := by kernel_rfl
theorem Uj : sliceB zA 89 9 = true := by kernel_rfl
theorem Uk : (Tryz.prog.underlying 214).isSome = true := by kernel_rfl
theorem RB : (Tryz.prog.underlying 234).isSome = true := by kernel_rfl
theorem Ql : (Tryz.prog.underlying 242).isSome = true := by kernel_rfl
theorem Xw : (Tryz.prog.underlying 3).isSome = true := by kernel_rfl
theorem XF : (Tryz.prog.underlying 5).isSome = true := by kernel_rfl
theorem Og : KQ zA 9 = true := by kernel_rfl
theorem BK : Gl zA 112 6 = true := by kernel_rfl
theorem DR : Gl zA 113 1 = true := by kernel_rfl
theorem Jz : Gl zA 125 1 = true := by kernel_rfl
theorem Iq : Gl zA 2 1 = true := by kernel_rfl
theorem Vp : Gl zA 209 8 = true := by kernel_rfl
theorem Wm : Gl zA 22 1 = true := by kernel_rfl
theorem DA : Gl zA 25 4 = true := by kernel_rfl
theorem WZ : Gl zA 29 7 = true := by kernel_rfl
theorem CK : Gl zA 3 1 = true := by kernel_rfl
theorem CY : Gl zA 37 11 = true := by kernel_rfl
theorem Xp : Gl zA 38 1 = true := by kernel_rfl
theorem Rm : Gl zA 4 1 = true := by kernel_rfl
theorem AU : Gl zA 40 3 = true := by kernel_rfl
theorem FR : Gl zA 67 3 = true := by kernel_rfl
theorem HT : Gl zA 73 6 = true := by kernel_rfl
theorem WI : Gl zA 9 1 = true := by kernel_rfl
theorem IC : Du zA 112 = some (.agg #[.int .i64 0, .int .i64 0, .int .i64 0, .bool false, .slice none 0 0, .slice none 0 0]) := by kernel_rfl
theorem LO : Du zA 113 = some (.int .u8 0) := by kernel_rfl
theorem Wk : Du zA 166 = some (.agg #[.int .i64 0, .int .i64 0, .bool false, .map none]) := by kernel_rfl
theorem Ud : Du zA 2 = some (.int .i64 0) := by kernel_rfl
theorem Ul : Du zA 209 = some (.agg #[.string ⟨#[]⟩, .string ⟨#[]⟩, .string ⟨#[]⟩, .string ⟨#[]⟩, .string ⟨#[]⟩, .string ⟨#[]⟩, .string ⟨#[]⟩, .string ⟨#[]⟩]) := by kernel_rfl
theorem Wu : Du zA 25 = some (.agg #[.slice none 0 0, .slice none 0 0, .slice none 0 0, .slice none 0 0]) := by kernel_rfl
theorem Ok : Du zA 3 = some (.int .i64 0) := by kernel_rfl
theorem IR : Du zA 37 = some (.agg #[.int .i64 0, .int .i64 0, .int .i64 0, .int .i64 0, .int .i64 0, .int .i64 0, .int .i64 0, .int .i64 0, .int .i64 0, .int .i64 0, .int .i64 0]) := by kernel_rfl
theorem Dj : Du zA 40 = some (.agg #[.slice none 0 0, .slice none 0 0, .slice none 0 0]) := by kernel_rfl
theorem OH : Du zA 67 = some (.agg #[.int .i64 0, .int .i64 0, .int .i64 0]) := by kernel_rfl
theorem R3 : Du zA 73 = some (.agg #[.int .i64 0, .bool false, .bool false, .slice none 0 0, .slice none 0 0, .slice none 0 0]) := by kernel_rfl
theorem V3 : Du zA 81 = some (.agg #[.slice none 0 0, .slice none 0 0, .slice none 0 0, .slice none 0 0, .slice none 0 0, .int .i64 0, .int .i64 0, .slice none 0 0, .slice none 0 0, .slice none 0 0]) := by kernel_rfl
theorem XD : Du zA 9 = some (.string ⟨#[]⟩) := by kernel_rfl
end Go.Lift
