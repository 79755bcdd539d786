/- Lemmas for AuditCorrectCardSaid, which YtfgobbnahihlfaaGreatDoorFinA6 proves. -/
import Derived.Test.YtfgobbnahihlfaaGreatDoorLift16
import Derived.ProofKit
import Derived.Shelf.SlSortCmp.NoneTotal
import Derived.MakeChecks
import Derived.Shelf.Strconv.Itoa3
import Derived.Shelf.Spec.TrailingZeros
import Derived.Shelf.SlLaysF
import Derived.Shelf.Strconv.Itoa4
import Derived.Laws.Runes
import Derived.Shelf.Strings.Builder1
import Derived.Deep.LoopGhost
import Derived.Deep.DeepFit
import Derived.Deep.Onto
import Derived.WalkKit
open Array renaming getElem?_append → zD0, getElem?_eq_none → yY, getElem?_eq_some_iff → zB8, length_toList → uK, replicate → zA2
open Bool renaming and_eq_true → zC, and_eq_true_iff → xX, false_eq_true → zA3, not_eq_true' → uF, not_true → zK, or_eq_true → yS, true_and → yA
open List renaming all_cons → xB, all_eq_true → zD, append_assoc → xG, drop_eq_nil_of_le → zW, eq_nil_of_length_eq_zero → xC, getD_cons_zero → zB6, getElem?_append_left → yC, getElem?_append_right → yJ, getElem?_drop → xA, getElem?_eq_getElem → zQ, getElem?_map → zH, getElem?_take_of_lt → yB, length → uB, length_cons → zX, length_map → zU, map_cons → yR, map_nil → zB4, map_toArray → uG, mem_cons → yL, mem_iff_getElem? → zM, mem_map → zS, nodup_cons → xH, range → zT, range' → uP
open Nat renaming add_assoc → xE, add_mul → y8, ble → xQ, ble_eq_true_of_le → uH, blt_eq → uC, eq_zero_or_pos → xP, le_of_ble_eq_true → yH, le_refl → yD, lt_or_ge → yO, min → y7, mul_le_mul_right → zG, succ_mul → yQ, zero_add → zI, zero_le → zL
open Option renaming getD_some → yP, map_some → yT
namespace Go.Lift
open Go.RowKit
variable {P : Program} {X : IT} {ops : Array Oper}
def Kj (P : Program) : Nat → List Field → Option (List Nat)
 | _, [] => some []
 | k, f :: fs => if f.name == "_" || f.offset != k then none else match P.underlying f.type with
  | some (.int _) => (Kj P (k + 1) fs).map (0 :: ·)
  | some .bool => (Kj P (k + 1) fs).map (1 :: ·)
  | some .string => (Kj P (k + 1) fs).map (2 :: ·)
  | _ => none
def Zl (P : Program) (t : TypeId) : Option (List Nat) :=
 match P.underlying t with
 | some (.struct fs) => if P.stoodInHeld t || P.eqGuardType P.depth t then none else Kj P 0 fs.toList
 | _ => none
def F2 : List Nat → List Value → List Value → Option Bool
 | [], [], [] => some true
 | 0 :: ts, .int k a :: ar, .int k' b :: bs => if k = k' then (F2 ts ar bs).map (fun r => (a == b) && r) else none
 | 1 :: ts, .bool a :: ar, .bool b :: bs => (F2 ts ar bs).map (fun r => (a == b) && r)
 | 2 :: ts, .string a :: ar, .string b :: bs => (F2 ts ar bs).map (fun r => (a.toList == b.toList) && r)
 | _, _, _ => none
theorem Xz {ts : List Nat} {ar bs : List Value} {r : Bool} (h : F2 (0 :: ts) ar bs = some r) : ∃ k a ar' b bs' r', ar = .int k a :: ar' ∧ bs = .int k b :: bs' ∧ F2 ts ar' bs' = some r' ∧ r = ((a == b) && r') := by
 unfold F2 at h
 split at h <;> try (exfalso; simp_all; done)
 rename_i ts' k a ar' k' b bs' e
 cases e
 split at h
 ·rename_i e; subst e
  cases hel : F2 ts ar' bs' with
  | none => rw [hel] at h; cases h
  | some r' =>
   rw [hel] at h
   exact ⟨k, a, ar', b, bs', r', rfl, rfl, hel, by simpa using h.symm⟩
 ·cases h
theorem Yt {ts : List Nat} {ar bs : List Value} {r : Bool} (h : F2 (1 :: ts) ar bs = some r) : ∃ a ar' b bs' r', ar = .bool a :: ar' ∧ bs = .bool b :: bs' ∧ F2 ts ar' bs' = some r' ∧ r = ((a == b) && r') := by
 unfold F2 at h
 split at h <;> try (exfalso; simp_all; done)
 rename_i ts' a ar' b bs' e
 cases e
 cases hel : F2 ts ar' bs' with
 | none => rw [hel] at h; cases h
 | some r' =>
  rw [hel] at h
  exact ⟨a, ar', b, bs', r', rfl, rfl, hel, by simpa using h.symm⟩
theorem WW {ts : List Nat} {ar bs : List Value} {r : Bool} (h : F2 (2 :: ts) ar bs = some r) : ∃ a ar' b bs' r', ar = .string a :: ar' ∧ bs = .string b :: bs' ∧ F2 ts ar' bs' = some r' ∧ r = ((a.toList == b.toList) && r') := by
 unfold F2 at h
 split at h <;> try (exfalso; simp_all; done)
 rename_i ts' a ar' b bs' e
 cases e
 cases hel : F2 ts ar' bs' with
 | none => rw [hel] at h; cases h
 | some r' =>
  rw [hel] at h
  exact ⟨a, ar', b, bs', r', rfl, rfl, hel, by simpa using h.symm⟩
theorem Rl {t : TypeId} (h : E4 P t false = true) {cs : Array Value} {off : Nat} {v : Value} (hv : cs[off]? = some v) (w : World) : (part t cs off).run P w = .ok v w := by
 unfold part
 refine Am (Jq h w) ?_
 simp only [zA3, if_false, hv]
 rfl
theorem PM (d : Nat) (xs ys : Array Value) (w : World) : ∀ (fs : List Field) (ts : List Nat) (k : Nat) (ar bs : List Value) (r : Bool), Kj P k fs = some ts → (∀ (j : Nat) (v : Value), ar[j]? = some v → xs[k + j]? = some v) → (∀ (j : Nat) (v : Value), bs[j]? = some v → ys[k + j]? = some v) → F2 ts ar bs = some r →
  (Op.eqFields (d + 1) xs ys fs).run P w = .ok r w
 | [], ts, k, ar, bs, r, ht, hx, hy, he => by
  cases ht
  cases ar <;> cases bs <;> simp [F2] at he
  subst he; rfl
 | f :: fs, ts, k, ar, bs, r, ht, hx, hy, he => by
  simp only [Kj] at ht
  split at ht
  ·cases ht
  ·rename_i hn
   simp only [yS, not_or, beq_iff_eq, bne_iff_ne, ne_eq, Decidable.not_not] at hn
   obtain ⟨hn1, hn2⟩ := hn
   subst hn2
   have step : ∀ (ts' : List Nat) (a b : Value) (ar' bs' : List Value) (q r' : Bool), ar = a :: ar' → bs = b :: bs' → Kj P (f.offset + 1) fs = some ts' → F2 ts' ar' bs' = some r' → E4 P f.type false = true → (Op.equalIn (d + 1) f.type a b).run P w = .ok q w →
     (Op.eqFields (d + 1) xs ys (f :: fs)).run P w = .ok (q && r') w := by
    intro ts' a b ar' bs' q r' ha hb htl hel hag heq
    subst ha; subst hb
    have h1 : xs[f.offset]? = some a := hx 0 a rfl
    have h2 : ys[f.offset]? = some b := hy 0 b rfl
    simp only [Op.eqFields, hn1, ne_eq, not_false_eq_true, if_true]
    refine Am (Rl hag h1 w) (Am (Rl hag h2 w) (Am heq ?_))
    cases q
    ·simp
    ·simp only [zK, zA3, if_false, yA]
     exact PM d xs ys w fs ts' (f.offset + 1) ar' bs' r' htl (fun j v hj => by rw [show f.offset + 1 + j = f.offset + (j + 1) from by omega]; exact hx (j + 1) v hj) (fun j v hj => by rw [show f.offset + 1 + j = f.offset + (j + 1) from by omega]; exact hy (j + 1) v hj) hel
   split at ht
   ·rename_i kk hu
    cases htl : Kj P (f.offset + 1) fs with
    | none => rw [htl] at ht; cases ht
    | some ts' =>
     rw [htl] at ht; cases ht
     obtain ⟨k1, a1, ar', b1, bs', r', e1, e2, hel, rfl⟩ := Xz he
     subst e1; subst e2
     exact step ts' _ _ ar' bs' _ r' rfl rfl htl hel (by unfold E4; rw [hu]; rfl) (run_equalIn_int w d f.type k1 kk a1 b1 hu)
   ·rename_i hu
    cases htl : Kj P (f.offset + 1) fs with
    | none => rw [htl] at ht; cases ht
    | some ts' =>
     rw [htl] at ht; cases ht
     obtain ⟨a1, ar', b1, bs', r', e1, e2, hel, rfl⟩ := Yt he
     subst e1; subst e2
     exact step ts' _ _ ar' bs' _ r' rfl rfl htl hel (by unfold E4; rw [hu]; rfl) (run_equalIn_bool' w d f.type a1 b1 hu)
   ·rename_i hu
    cases htl : Kj P (f.offset + 1) fs with
    | none => rw [htl] at ht; cases ht
    | some ts' =>
     rw [htl] at ht; cases ht
     obtain ⟨a1, ar', b1, bs', r', e1, e2, hel, rfl⟩ := WW he
     subst e1; subst e2
     exact step ts' _ _ ar' bs' _ r' rfl rfl htl hel (by unfold E4; rw [hu]; rfl) (run_equalIn_string w d f.type a1 b1 hu)
   ·cases ht
theorem Sc {t : TypeId} {ts : List Nat} (h : Zl P t = some ts) {ar bs : List Value} {r : Bool} (hr : F2 ts ar bs = some r) (w : World) :
  (Op.equalIn 10000 t (.agg ar.toArray) (.agg bs.toArray)).run P w = .ok r w ∧ P.eqGuardType P.depth t = false := by
 unfold Zl at h
 split at h
 ·rename_i fs hu
  split at h
  ·cases h
  ·rename_i hn
   simp only [yS, not_or, Bool.not_eq_true] at hn
   have hf : P.fieldsOf t = fs := by unfold Program.fieldsOf; rw [hu]
   refine ⟨?_, hn.2⟩
   rw [run_equalIn_struct w 9999 t _ _ (by rw [hf]; exact hu) hn.1, hf]
   exact PM 9998 _ _ w fs.toList ts 0 ar bs r h (fun j v hj => by simpa using hj) (fun j v hj => by simpa using hj) hr
 ·cases h
abbrev aD (ar : List Value) : D := .e (.agg (ar.map fun v => .pure (.val v)))
theorem XO {w : World} {G : Gh} {v : Value} {ar : List Value} (h : Ii P w G v (aD ar)) : v = .agg ar.toArray := by
 obtain ⟨vs, rfl, hs, h⟩ := h
 congr 1
 have hs' : vs.size = ar.length := by simpa using hs
 apply Array.ext
 ·simpa using hs'
 ·intro j h1 h2
  have hj : j < ar.length := by omega
  have : FU P w G (AC vs j) (.pure (.val ar[j])) := h j _ (by simp [hj])
  have h3 := DR (this : DJ w G.S _ (.val _))
  simpa [AC, h1] using h3
section run
variable {dr : Bool} {Q : St → Prop} {r i : Nat} {st : St} {log : List (Nat × C6)} {o : Oper} {gs : List (Operand × D)}
theorem eW {xt yt : TypeId} {x y : Operand} {s : Nat} {ts : List Nat} {b : Bool} (ar bs : List Value) (hat : At st.env ops i X.n (.binOp .eql xt x y yt) s gs)
  (hx : opd st.env x = some (aD ar)) (hy : opd st.env y = some (aD bs)) (ht : Zl P xt = some ts) (he : F2 ts ar bs = some b)
  (next : By P X ops dr Q r (i + 1) (C6.upd ⟨gs ++ [(x, aD ar), (y, aD bs)], [], some s, some (bD b), [], []⟩ st) ((i, ⟨gs ++ [(x, aD ar), (y, aD bs)], [], some s, some (bD b), [], []⟩) :: log)) : By P X ops dr Q (r + 1) i st log := by
 obtain ⟨o, ho, hop, hd, hn, hg, hgp⟩ := hat.out
 refine By.step next ⟨Ar.2 ⟨hgp, hx, hy, trivial⟩, trivial, trivial⟩ (LR.value ho hg rfl hd.symm (DU hd hn) ?_)
 intro G st a w hs hpre
 obtain ⟨hx, hy, _⟩ := (Ar.1 hpre.r).2
 have hX := XO (hs.opd hx)
 have hY := XO (hs.opd hy)
 obtain ⟨h1, h2⟩ := Sc ht he w
 refine ⟨.bool b, w, G, ?_, hs, ?_⟩
 ·simp only [execOp, hop, hX, hY]
  refine Am (a := .bool b) (w1 := w) (Am (run_eqGuard_agg w .eql xt x y _ _ h2) ?_) rfl
  rw [run_eql_struct, h1]; rfl
 ·rintro d ⟨⟩
  exact ⟨.val _ rfl, fun b hb => by cases hb⟩
theorem Vg {xt yt : TypeId} {x : Operand} {s e : Nat} {rows : List (List T)} (hat : At st.env ops i X.n (.binOp .eql xt x (.const (.slice none 0 0)) yt) s gs)
  (hx : opd st.env x = some (one (.sl rows))) (ht : sliceB P xt e = true)
  (next : By P X ops dr Q r (i + 1) (C6.upd ⟨gs ++ [(x, one (.sl rows))], [], some s, some (.e (.one (.nilq (rows = [])))), [], []⟩ st) ((i, ⟨gs ++ [(x, one (.sl rows))], [], some s, some (.e (.one (.nilq (rows = [])))), [], []⟩) :: log)) : By P X ops dr Q (r + 1) i st log := by
 obtain ⟨o, ho, hop, hd, hn, hg, hgp⟩ := hat.out
 refine By.step next ⟨Ar.2 ⟨hgp, hx, trivial⟩, trivial, trivial⟩ (LR.value ho hg rfl hd.symm (DU hd hn) ?_)
 intro G st a w hs hpre
 obtain ⟨hx, _⟩ := (Ar.1 hpre.r).2
 have hX : DJ w G.S (a.eval x) (.sl rows) := hs.opd hx
 obtain ⟨av, l, c, hv, hq⟩ : ∃ av l c, a.eval x = .slice av l c ∧ (av.isNone = true → rows = []) := by
  generalize a.eval x = v at hX
  cases hX with
  | nil av cap => exact ⟨av, 0, cap, rfl, fun _ => rfl⟩
  | sl β off cap e arr el fz rows h1 h2 h3 h4 h5 h6 => exact ⟨_, _, _, rfl, fun h => by cases h⟩
 have hu : P.underlying xt = some (.slice e) := by
  unfold sliceB at ht
  split at ht
  ·rename_i e' he; rw [he]; simp at ht; rw [ht]
  ·cases ht
 refine ⟨.bool av.isNone, w, G, ?_, hs, ?_⟩
 ·simp only [execOp, hop, hv]
  refine Am (a := .bool av.isNone) (w1 := w) (Am (a := ()) (w1 := w) (by simp [eqGuard]) ?_) rfl
  have h1 : (Op.equalIn (9999 + 1) xt (.slice av l c) (.slice none 0 0)).run P w = .ok av.isNone w := by
   generalize 9999 = dd
   cases av <;> (unfold Op.equalIn; exact Am (AW hu w) rfl)
  simp only [binOp, Act.eval]
  refine Am (a := av.isNone) (w1 := w) ?_ rfl
  exact h1
 ·rintro d ⟨⟩
  exact ⟨⟨_, rfl, hq⟩, fun b hb => by cases hb⟩
end run
theorem Vq {c : Operand} {x y : Code} {Q : Exit → St → Prop} {st : St} {p : Prop} (hc : opd st.env c = some (.e (.one (.nilq p)))) (ht : p → W P X x Q st) (hf : W P X y Q st) : W P X (.cond c x y) Q st := by
 intro a w hs
 obtain ⟨b, hcv, hp⟩ : ∃ b, a.eval c = .bool b ∧ (b = true → p) := by
  obtain ⟨G, hs⟩ := hs
  exact hs.opd hc
 cases b with
 | true => exact wp_cond_true hcv (ht (hp rfl) a w hs)
 | false => exact wp_cond_false hcv (hf a w hs)
end Go.Lift
namespace Go.Lift
open List renaming mem_of_getElem? → lM
open Go.RowKit
variable {P : Program} {X : IT} {ops : Array Oper}
def TL : Bool × List T → D
 | (true, ts) => .e (.agg (ts.map .pure))
 | (false, ts) => .e (.one (.pure (ts.headD .nil0)))
def ba : Bool × List T → Bool
 | (true, _) => true
 | (false, ts) => match ts with | [_] => true | _ => false
theorem bH {w : World} {S : Nat → Prop} {G : Gh} {v : Value} {x : Bool × List T} (h : Ii P w G v (TL x)) (hS : ∀ β, G.S β → S β) (hx : ba x = true) : cQ w S v x := by
 obtain ⟨b, ts⟩ := x
 cases b with
 | false =>
  match ts, hx with
  | [t], _ => exact ⟨t, rfl, DJ.mono (show DJ w G.S v t from h) (fun _ _ => rfl) hS⟩
 | true =>
  obtain ⟨vs, e, hs, h⟩ := h
  refine ⟨vs, e, by simpa using hs, fun j t hj => ?_⟩
  have : FU P w G (AC vs j) (.pure t) := h j (.pure t) (by simp [hj])
  exact DJ.mono this (fun _ _ => rfl) hS
theorem YJ {w : World} {S : Nat → Prop} {v : Value} {x : Bool × List T} (h : cQ w S v x) : Ii P w (G0 S) v (TL x) := by
 obtain ⟨b, ts⟩ := x
 cases b with
 | false =>
  obtain ⟨t, rfl, h⟩ := h
  exact h
 | true =>
  obtain ⟨vs, e, hs, h⟩ := h
  refine ⟨vs, e, by simpa using hs, fun j c hj => ?_⟩
  rw [zH] at hj
  cases hx : ts[j]? with
  | none => rw [hx] at hj; cases hj
  | some t => rw [hx] at hj; cases hj; exact h j t hx
noncomputable def Lz {α ρ : Type} (ea : α → List (Bool × List T)) (er : ρ → T) (q : α → Option ρ) : List (Bool × List T) → Option T := fun ar =>
 open Classical in if h : ∃ x r, ea x = ar ∧ q x = some r then some (er (Classical.choose (Classical.choose_spec h))) else none
theorem Mp {α ρ : Type} {ea : α → List (Bool × List T)} {er : ρ → T} {q : α → Option ρ} {ar : List (Bool × List T)} {t : T} (h : Lz ea er q ar = some t) : ∃ x r, ar = ea x ∧ q x = some r ∧ t = er r := by
 unfold Lz at h
 split at h
 ·rename_i hx
  cases h
  have := Classical.choose_spec (Classical.choose_spec hx)
  exact ⟨_, _, this.1.symm, this.2, rfl⟩
 ·cases h
theorem Pe {α ρ : Type} {ea : α → List (Bool × List T)} {er : ρ → T} {q : α → Option ρ} (inj : ∀ x y, ea x = ea y → x = y) {x : α} {r : ρ} (h : q x = some r) : Lz ea er q (ea x) = some (er r) := by
 have hx : ∃ y s, ea y = ea x ∧ q y = some s := ⟨x, r, rfl, h⟩
 unfold Lz
 rw [dif_pos hx]
 have h1 := Classical.choose_spec (Classical.choose_spec hx)
 have h2 := inj _ _ h1.1
 have h3 : q (Classical.choose hx) = some r := by rw [h2]; exact h
 exact congrArg (fun z => some (er z)) (Option.some.inj (h3.symm.trans h1.2)).symm
structure cU {α β : Type} (f : α → β) : Prop where
 inj : ∀ x y, f x = f y → x = y
def Rd {α : Type} (b : Bool) (e : α → List T) (x : α) : List (Bool × List T) := [(b, e x)]
theorem Pm {α : Type} (b : Bool) (e : α → List T) (h : cU e) : ∀ x y, Rd b e x = Rd b e y → x = y := by
 intro x y hxy
 simp only [Rd, List.cons.injEq, Prod.mk.injEq, true_and, and_true] at hxy
 exact h.inj _ _ hxy
theorem Vf {α β : Type} {f : α → β} (h : ∀ x y, f x = f y → x = y) : ∀ (xs ys : List α), xs.map f = ys.map f → xs = ys
 | [], [], _ => rfl
 | [], _ :: _, e => by cases e
 | _ :: _, [], e => by cases e
 | x :: xs, y :: ys, e => by
  simp only [yR, List.cons.injEq] at e
  rw [h _ _ e.1, Vf h _ _ e.2]
theorem Sv {f : FuncId} {g : List (Bool × List T) → Option T} (hf : AE P f = true) (hclo : ∀ ar t, g ar = some t → Au P f (ar.map TL) [] (one t)) {w : World} {S : Nat → Prop} {v : Value} (h : Ii P w (G0 S) v (.e (.one (.fnc f)))) : Ii P w (G0 S) v (.e (.one (.clo g))) := by
 refine ⟨f, #[], h, ?_, ?_⟩
 ·unfold AE at hf
  split at hf
  ·rename_i fn h0
   simp only [zC, uF] at hf
   exact ⟨fn, h0, hf.2, hf.1⟩
  ·cases hf
 ·intro w' S' _ _ hlt hgk vs ar r0 hvs has hgr
  refine (hclo ar r0 hgr w' S' (vs ++ #[]) hlt hgk (by simp [hvs]) ?_).mono ?_
  ·intro j d hj
   rw [zH] at hj
   cases hx0 : ar[j]? with
   | none => rw [hx0] at hj; cases hj
   | some y =>
    rw [hx0] at hj; cases hj
    rw [Array.append_empty]
    exact YJ (has j y hx0)
  ·rintro e w'' ⟨v, G', rfl, hbel, h1, h2, h3, _⟩
   exact ⟨v, G'.S, rfl, hbel, h1, h2, h3⟩
def ed (P : Program) : List D → List D → Prop
 | [], [] => True
 | a :: ar, b :: bs => (∀ (w : World) (S : Nat → Prop) (v : Value), Ii P w (G0 S) v a → Ii P w (G0 S) v b) ∧ ed P ar bs
 | _, _ => False
theorem ed.get : ∀ {ar bs : List D}, ed P ar bs → ar.length = bs.length ∧ ∀ (j : Nat) (b : D), bs[j]? = some b → ∃ a, ar[j]? = some a ∧ ∀ (w : World) (S : Nat → Prop) (v : Value), Ii P w (G0 S) v a → Ii P w (G0 S) v b
 | [], [], _ => ⟨rfl, fun j b h => by simp at h⟩
 | a :: ar, b :: bs, h => by
  obtain ⟨h1, h2⟩ := ed.get h.2
  refine ⟨by simp [h1], fun j c hj => ?_⟩
  cases j with
  | zero => simp at hj; subst hj; exact ⟨a, rfl, h.1⟩
  | succ j => obtain ⟨a', g1, g2⟩ := h2 j c (by simpa using hj); exact ⟨a', by simpa using g1, g2⟩
theorem Au.weak {f : FuncId} {ds ds' : List D} {rv : List (Nat × List (List T))} {res : D} (h : Au P f ds rv res) (hp : ed P ds' ds) : Au P f ds' rv res := by
 intro w S vs hS hgk hlen hargs
 obtain ⟨h1, h2⟩ := hp.get
 refine h w S vs hS hgk (by rw [hlen, h1]) fun j d hj => ?_
 obtain ⟨a, g1, g2⟩ := h2 j d hj
 exact g2 w S _ (hargs j a g1)
section run
variable {dr : Bool} {Q : St → Prop} {r i : Nat} {st : St} {log : List (Nat × C6)} {o : Oper} {gs : List (Operand × D)}
theorem UW {f : FuncId} (h : AE P f = true) : ∃ fn, P.funcs[f]? = some fn ∧ fn.body.isSome = true ∧ (fn.name == "runtime.NumGoroutine") = false := by
 unfold AE at h
 split at h
 ·rename_i fn hf
  simp only [zC, uF] at h
  exact ⟨fn, hf, h.2, h.1⟩
 ·cases h
theorem Uy {f : FuncId} {s : Nat} {xs : List Operand} {capD : List D} (g : List (Bool × List T) → Option T) (hat : At st.env ops i X.n (.makeFunc (.func f) #[] xs.toArray) s gs)
  (hf : AE P f = true) (hl : xs.length = capD.length) (hx : FB st.env (IB xs capD)) (hpub : capD.all Ua = true)
  (hclo : ∀ ar t, g ar = some t → Au P f (ar.map TL ++ capD) [] (one t))
  (next : By P X ops dr Q r (i + 1) (C6.upd ⟨gs ++ IB xs capD, [], some s, some (.e (.one (.clo g))), [], []⟩ st) ((i, ⟨gs ++ IB xs capD, [], some s, some (.e (.one (.clo g))), [], []⟩) :: log)) : By P X ops dr Q (r + 1) i st log := by
 obtain ⟨o, ho, hop, hd, hn, hg, hgp⟩ := hat.out
 refine By.step next ⟨Ar.2 ⟨hgp, hx⟩, trivial, trivial⟩ (LR.value ho hg rfl hd.symm (DU hd hn) ?_)
 intro G st a w hs hpre
 have hx := (Ar.1 hpre.r).2
 refine ⟨.func (.func f) #[] (xs.toArray.map a.eval), w, G, ?_, hs, ?_⟩
 ·simp only [execOp, hop]
  exact Am (a := .func (.func f) #[] (xs.toArray.map a.eval)) (w1 := w) (by simp [Instr.makeFunc]) rfl
 ·rintro d ⟨⟩
  refine ⟨⟨f, _, rfl, UW hf, ?_⟩, fun b hb => by cases hb⟩
  intro w' S' hS' hw' hlt hgk vs ar r0 hvs has hgr
  refine (hclo ar r0 hgr w' S' (vs ++ xs.toArray.map a.eval) hlt hgk (by simp [hvs, hl]) ?_).mono ?_
  ·intro j d hj
   by_cases hja : j < ar.length
   ·rw [yC (by simpa using hja), zH] at hj
    have hx0 : ar[j]? = some ar[j] := by simp [hja]
    rw [hx0] at hj; cases hj
    rw [DX (by omega)]
    exact YJ (has j _ hx0)
   ·rw [yJ (by simp; omega)] at hj
    simp only [zU] at hj
    have hlt' := AT hj
    have hxj : xs[j - ar.length]? = some (xs[j - ar.length]'(by omega)) := by simp [show j - ar.length < xs.length from by omega]
    have hop' := Kr hl hx _ _ d hxj hj
    have hcell : AC (vs ++ xs.toArray.map a.eval) j = a.eval (xs[j - ar.length]'(by omega)) := by
     unfold AC
     rw [Array.getElem?_append_right (by omega), hvs]
     simp [show j - ar.length < xs.length from by omega]
    rw [hcell]
    have hcl : d.names = [] := by
     have := zD.1 hpub d (lM hj)
     simpa [Ua] using this
    exact ((hs.opd hop').mono (p := fun _ => False) (G' := G0 S') ⟨hS', fun _ h => h.elim, fun _ h => h.elim, fun _ h => h.elim⟩ hw' (fun b hb => by rw [hcl] at hb; cases hb))
  ·rintro e w'' ⟨v, G', rfl, hbel, h1, h2, h3, _⟩
   exact ⟨v, G'.S, rfl, hbel, h1, h2, h3⟩
theorem Pj {x : Operand} {g : List (Bool × List T) → Option T} {s : Nat} {xs : List Operand} {ds0 : List D} {ar : List (Bool × List T)} {r0 : T} {ts : Array TypeId} (hat : At st.env ops i X.n (.call ⟨.value x, xs.toArray, ts⟩) s gs)
  (hgx : opd st.env x = some (.e (.one (.clo g)))) (hl : xs.length = ds0.length) (hx : FB st.env (IB xs ds0)) (hds : ds0.map D.nrm = ar.map TL) (_hpub : (ar.map TL).all Ua = true) (hok : ar.all ba = true) (hr : g ar = some r0)
  (next : By P X ops dr Q r (i + 1) (C6.upd ⟨gs ++ ((x, .e (.one (.clo g))) :: IB xs ds0), [], some s, some (one r0), [], []⟩ st) ((i, ⟨gs ++ ((x, .e (.one (.clo g))) :: IB xs ds0), [], some s, some (one r0), [], []⟩) :: log)) : By P X ops dr Q (r + 1) i st log := by
 obtain ⟨o, ho, hop, hd, hn, hg, hgp⟩ := hat.out
 refine By.step next ⟨Ar.2 ⟨hgp, hgx, hx⟩, trivial, trivial⟩ ?_
 intro st a w K Q' hs hpre hK
 obtain ⟨G, hs⟩ := hs
 obtain ⟨hgx, hx⟩ := (Ar.1 hpre.r).2
 have hw := hs.wanted hg (Ar.1 hpre.r).1
 unfold wpOp
 rw [ho]
 simp only [hw, if_true]
 refine .inl ?_
 unfold Oper.wp
 obtain ⟨f, caps, hv, ⟨fn, hf1, hf2, hf3⟩, hcall⟩ : P2 P w G.S (a.eval x) g := hs.opd hgx
 have hgood : AE P f = true := by unfold AE; rw [hf1]; simp [hf2]; simpa using hf3
 have hrun : (execOp a.eval o).run P w = .ok (.enter f (xs.toArray.map a.eval ++ caps)) w := by
  simp only [execOp, hop]
  simp only [resolve, hv, Deferred.ofValue]
  refine Am (a := { target := .fn (.func f) caps, args := #[] ++ xs.toArray.map a.eval }) (w1 := w) rfl ?_
  simp only [invoke]
  rw [K7 hgood]; simp
 rw [hrun]
 show Calls P f (xs.toArray.map a.eval ++ caps) w _
 have hlen : xs.length = ar.length := by
  have := congrArg uB hds
  simp at this; omega
 refine (hcall w G.S (fun _ h => h) (fun _ _ => rfl) hs.S_lt hs.gok (xs.toArray.map a.eval) ar r0 (by simp [hlen]) ?_ hr).mono ?_
 ·intro j y hj
  have hlt := AT hj
  have hd0 : ds0[j]? = some (ds0[j]'(by omega)) := by simp [show j < ds0.length from by omega]
  have hnrm : (ds0[j]'(by omega)).nrm = TL y := by
   have h1 : (ds0.map D.nrm)[j]? = (ar.map TL)[j]? := by rw [hds]
   rw [zH, zH, hd0, hj] at h1
   simpa using h1
  have hxj : xs[j]? = some (xs[j]'(by omega)) := by simp [show j < xs.length from by omega]
  have hop' := Kr hl hx j _ _ hxj hd0
  have hcell : AC (xs.toArray.map a.eval) j = a.eval (xs[j]'(by omega)) := by simp [AC, show j < xs.length from by omega]
  rw [hcell]
  have hrd := (hs.opd hop').nrm
  rw [hnrm] at hrd
  exact bH hrd (fun _ h => h) (zD.1 hok y (lM hj))
 ·rintro e w' ⟨v, S'', rfl, hbel, hS1, hS2, hres⟩
  show K (a.put o.dst v) w'
  rw [hd]
  let G2 : Gh := { G with S := S'' }
  have hsz := hbel.size
  have hle := hs.below.size
  have key : DQ P X G2 ⟨st.env, Cw st.bx []⟩ a w' := by
   refine hs.frame (fun c hc => hc) ⟨hS1, fun _ _ => rfl, fun _ _ => rfl, fun _ _ => rfl⟩ (fun β hβ => hbel.block β (hs.S_lt β hβ)) ?_ ?_ ?_ ?_ ?_ (hs.below.trans (.of (hbel.mono hle))) (fun _ _ => ⟨rfl, rfl, rfl⟩)
   ·intro c k hc
    exact .inl ⟨hc, fun β hr hβ => hbel.block β (hs.at_ok c k β hc hr hβ).2.1⟩
   ·intro c k β hc hr hβ
    have := hs.at_ok c k β hc hr hβ
    refine ⟨this.1, by omega, fun h => ?_⟩
    rcases hS2 β h with h | h
    ·exact this.2.2 h
    ·omega
   ·intro c c' k k' β hc hc' hr hr' hβ hβ'
    exact hs.at_inj c c' k k' β hc hc' hr hr' hβ hβ'
   ·intro β h
    rcases hS2 β h with h | h
    ·have := hs.S_lt β h; omega
    ·exact h.2
   ·intro β h
    rcases hS2 β h with h | h
    ·exact hs.S_src β h
    ·exact .inr (by omega)
  refine hK _ _ ⟨G2, key.put (some s) (some (one r0)) v (by intro t e; cases e; exact hn) ?_⟩
  rintro d ⟨⟩
  exact ⟨hres, fun b hb => by cases hb⟩
end run
end Go.Lift
namespace Go.Lift
open Go.RowKit Go.ChangeShapes Go.WideShapes
section
variable {P : Program}
def Nm (P : Program) : Nat → List Field → Nat → Bool
 | o, [], n => o == n
 | o, f :: fs, n => f.offset == o && Nm P (o + P.cellsOf f.type) fs n
def Kp (P : Program) : Nat → TypeId → Bool
 | 0, _ => false
 | d + 1, t => match P.underlying t with
  | some (.int _) => true
  | some .bool => true
  | some .string => true
  | some (.slice e) => decide (0 < P.cellsOf e) && Kp P d e
  | some (.struct fs) => Nm P 0 fs.toList (P.cellsOf t) && fs.toList.all fun f => Kp P d f.type
  | _ => false
def ZM (F : TypeId → List T → Prop) : List TypeId → List T → Prop
 | [], ts => ts = []
 | t :: tys, ts => ∃ a b, ts = a ++ b ∧ F t a ∧ ZM F tys b
def LM (P : Program) : Nat → TypeId → List T → Prop
 | 0, _, _ => False
 | d + 1, t, ts => match P.underlying t with
  | some (.int k) => ∃ n, ts = [.val (.int k n)] ∧ (Lit.int k n).wf = true
  | some .bool => ∃ b, ts = [.val (.bool b)]
  | some .string => ∃ s, ts = [.val (.string s)]
  | some (.slice e) => ∃ rows, ts = [.sl rows] ∧ ∀ row, row ∈ rows → LM P d e row
  | some (.struct fs) => ZM (LM P d) (fs.toList.map (·.type)) ts
  | _ => False
def I8 (w : World) (S : Nat → Prop) : List Value → List T → Prop
 | [], [] => True
 | v :: vs, t :: ts => DJ w S v t ∧ I8 w S vs ts
 | _, _ => False
theorem I8.append {w : World} {S : Nat → Prop} : ∀ {a b : List Value} {x y : List T}, I8 w S a x → I8 w S b y → I8 w S (a ++ b) (x ++ y)
 | [], _, [], _, _, h => h
 | _ :: _, _, _ :: _, _, h1, h2 => ⟨h1.1, I8.append h1.2 h2⟩
theorem I8.len {w : World} {S : Nat → Prop} : ∀ {a : List Value} {x : List T}, I8 w S a x → a.length = x.length
 | [], [], _ => rfl
 | _ :: _, _ :: _, h => by simp [h.2.len]
theorem I8.get {w : World} {S : Nat → Prop} : ∀ {a : List Value} {x : List T}, I8 w S a x → ∀ (j : Nat) (t : T), x[j]? = some t → ∃ v, a[j]? = some v ∧ DJ w S v t
 | [], [], _, j, t, hj => by simp at hj
 | v :: _, _ :: _, h, 0, t, hj => by simp at hj; subst hj; exact ⟨v, rfl, h.1⟩
 | _ :: _, _ :: _, h, j + 1, t, hj => by
  obtain ⟨v, h1, h2⟩ := h.2.get j t (by simpa using hj)
  exact ⟨v, by simpa using h1, h2⟩
theorem OI {α : Type} {p : Nat → α → Prop} : ∀ (n : Nat), (∀ i, i < n → ∃ x, p i x) → ∃ l : List α, l.length = n ∧ ∀ i x, l[i]? = some x → p i x
 | 0, _ => ⟨[], rfl, fun i x h => by simp at h⟩
 | n + 1, h => by
  obtain ⟨l, h1, h2⟩ := OI n (fun i hi => h i (by omega))
  obtain ⟨x, hx⟩ := h n (by omega)
  refine ⟨l ++ [x], by simp [h1], fun i y hi => ?_⟩
  by_cases hlt : i < l.length
  ·rw [yC hlt] at hi; exact h2 i y hi
  ·rw [yJ (by omega)] at hi
   have : i - l.length = 0 := by
    have := AT hi
    simp at this; omega
   rw [this] at hi
   simp at hi; subst hi
   have : i = n := by omega
   subst this; exact hx
theorem LI {α : Type} {f : Nat → Option α} : ∀ {n : Nat} {l : List α}, (zT n).mapM f = some l → l.length = n ∧ ∀ i, i < n → f i = l[i]? := by
 intro n l h
 have h1 := mapM_some_length h
 refine ⟨by simpa using h1, fun i hi => ?_⟩
 exact mapM_some_get h i i (by simp [hi])
theorem Ud {w : World} {b o : Nat} {v : Value} (h : w.cell? ⟨b, o, none⟩ = some v) : ∃ arr el fz, w.heap[b]? = some (.cells arr el fz) ∧ arr[o]? = some v := by
 unfold World.cell? at h
 split at h
 ·rename_i c el fz hc
  exact ⟨c, el, fz, hc, by simpa using h⟩
 ·cases h
theorem Z3 {w : World} {b : Nat} {o : Obj} (h : w.heap[b]? = some o) : b < w.heap.size := by
 rcases yO b w.heap.size with h1 | h1
 ·exact h1
 ·rw [yY h1] at h; cases h
abbrev UU (w : World) : Nat → Prop := fun β => β < w.heap.size
theorem RS {H : Type} {enc : TypeId × Value → H} {w : World} {sp : Nat → Bool} {held : Bool} {n d : Nat} {cs : List Value}
  (ih : ∀ (t : TypeId) (cs : List Value) (x : DataW H × List MemPlace), Kp P d t = true → DataW.trod enc P w 0 sp held n t cs = some x → ∃ ts, I8 w (UU w) cs ts ∧ LM P d t ts) :
  ∀ (fs : List Field) (o : Nat), Nm P o fs cs.length = true → (fs.all fun f => Kp P d f.type) = true →
   (∀ f, f ∈ fs → ∃ x, DataW.trod enc P w 0 sp held n f.type ((cs.drop f.offset).take (P.cellsOf f.type)) = some x) →
   ∃ ts, I8 w (UU w) (cs.drop o) ts ∧ ZM (LM P d) (fs.map (·.type)) ts
 | [], o, hc, _, _ => by
  simp only [Nm, beq_iff_eq] at hc
  refine ⟨[], ?_, rfl⟩
  rw [zW (by omega)]; trivial
 | f :: fs, o, hc, hp, hx => by
  simp only [Nm, zC, beq_iff_eq] at hc
  simp only [xB, zC] at hp
  obtain ⟨x, hx0⟩ := hx f (by simp)
  rw [hc.1] at hx0
  obtain ⟨ts, h1, h2⟩ := ih _ _ _ hp.1 hx0
  obtain ⟨us, h3, h4⟩ := RS ih fs _ hc.2 hp.2 (fun g hg => hx g (by simp [hg]))
  refine ⟨ts ++ us, ?_, ⟨ts, us, rfl, h2, h4⟩⟩
  have : cs.drop o = (cs.drop o).take (P.cellsOf f.type) ++ cs.drop (o + P.cellsOf f.type) := by
   rw [← List.drop_drop, List.take_append_drop]
  rw [this]
  exact h1.append h3
theorem SC {H : Type} {enc : TypeId × Value → H} {w : World} {sp : Nat → Bool} {held : Bool} : ∀ (d fuel : Nat) (t : TypeId) (cs : List Value) (x : DataW H × List MemPlace), Kp P d t = true → DataW.trod enc P w 0 sp held fuel t cs = some x → ∃ ts, I8 w (UU w) cs ts ∧ LM P d t ts
 | 0, _, _, _, _, hp, _ => by cases hp
 | d + 1, fuel, t, cs, x, hp, hx => by
  unfold Kp at hp
  unfold LM
  split at hp
  ·rename_i k hu
   obtain ⟨n, rfl, _, hw⟩ := DataW.trod_int hu hx
   exact ⟨[.val (.int k n)], ⟨.val _ rfl, trivial⟩, n, rfl, hw⟩
  ·rename_i hu
   obtain ⟨b, rfl, _⟩ := DataW.trod_bool hu hx
   exact ⟨[.val (.bool b)], ⟨.val _ rfl, trivial⟩, b, rfl⟩
  ·rename_i hu
   obtain ⟨b, rfl, _⟩ := DataW.trod_string hu hx
   exact ⟨[.val (.string b)], ⟨.val _ rfl, trivial⟩, b, rfl⟩
  ·rename_i e hu
   simp only [zC, decide_eq_true_eq] at hp
   rcases DataW.trod_slice hu hx with ⟨rfl, _⟩ | ⟨a, len, cap, elems, rest, n, rfl, rfl, _, _, hl, _, hlen, hel, _, _⟩
   ·exact ⟨[.sl []], ⟨.nil none 0, trivial⟩, [], rfl, fun row h => by cases h⟩
   ·have hrow : ∀ i, i < len → ∃ row, ∃ csi, w.cells? 0 (a.add (i * P.cellsOf e)) (P.cellsOf e) = some csi ∧ I8 w (UU w) csi row ∧ LM P d e row := by
     intro i hi
     have h1 := hel i hi
     have h2 : elems[i]? = some (elems[i]'(by omega)) := by simp [show i < elems.length from by omega]
     rw [h2] at h1
     obtain ⟨csi, h3, h4⟩ := Option.bind_eq_some_iff.1 h1
     obtain ⟨row, h5, h6⟩ := SC d n e csi _ hp.2 h4
     exact ⟨row, csi, h3, h5, h6⟩
    obtain ⟨rows, hrl, hrows⟩ := OI len hrow
    subst hrl
    refine ⟨[.sl rows], ⟨?_, trivial⟩, rows, rfl, fun row hm => ?_⟩
    ·cases hr0 : rows with
     | nil => exact .nil _ _
     | cons r0 rs0 =>
      rw [← hr0]
      have hpos : 0 < rows.length := by rw [hr0]; simp
      -- each cell
      have hcell : ∀ (i : Nat) (row : List T) (j : Nat) (u : T), rows[i]? = some row → row[j]? = some u → j < P.cellsOf e ∧ ∃ v, w.cell? ((a.add (i * P.cellsOf e)).add j) = some v ∧ DJ w (UU w) v u := by
       intro i row j u hi hj
       obtain ⟨csi, h1, h2, _⟩ := hrows i row hi
       obtain ⟨v, h3, h4⟩ := h2.get j u hj
       unfold World.cells? at h1
       rw [if_pos (zL _)] at h1
       obtain ⟨h5, h6⟩ := LI h1
       have hjl : j < P.cellsOf e := by have := AT h3; omega
       exact ⟨hjl, v, by rw [h6 j hjl, h3], h4⟩
      have hrlen : ∀ (i : Nat) (row : List T), rows[i]? = some row → row.length = P.cellsOf e := by
       intro i row hi
       obtain ⟨csi, h1, h2, _⟩ := hrows i row hi
       unfold World.cells? at h1
       rw [if_pos (zL _)] at h1
       obtain ⟨h5, _⟩ := LI h1
       rw [← h2.len, h5]
      have hget : ∀ i (hi : i < rows.length), rows[i]? = some (rows[i]'hi) := fun i hi => by simp [hi]
      have hr00 := hget 0 hpos
      have hl0 := hrlen 0 _ hr00
      obtain ⟨_, v0, hv0, _⟩ := hcell 0 _ 0 ((rows[0]'hpos)[0]'(by omega)) hr00 (by simp)
      have hadd0 : (a.add (0 * P.cellsOf e)).add 0 = a := by simp [Addr.add]
      rw [hadd0] at hv0
      have hspot := World.cell?_spot hv0
      obtain ⟨β, off, spot⟩ := a
      simp only at hspot
      subst hspot
      obtain ⟨arr, el, fz, hb, _⟩ := Ud hv0
      have hadd : ∀ i j : Nat, ((⟨β, off, none⟩ : Addr).add (i * P.cellsOf e)).add j = ⟨β, off + i * P.cellsOf e + j, none⟩ := by
       intro i j
       unfold Addr.add
       split
       ·rename_i h1
        split
        ·rename_i h2; rw [h2]; simp
        ·rename_i h2; simp only [Addr.mk.injEq, true_and, and_true]; omega
       ·split <;> simp_all <;> omega
      have hat : ∀ (i : Nat) (row : List T) (j : Nat) (u : T), rows[i]? = some row → row[j]? = some u → off + i * P.cellsOf e + j < arr.size ∧ DJ w (UU w) (AC arr (off + i * P.cellsOf e + j)) u := by
       intro i row j u hi hj
       obtain ⟨_, v, h1, h2⟩ := hcell i row j u hi hj
       rw [hadd] at h1
       obtain ⟨arr', el', fz', h3, h4⟩ := Ud h1
       rw [hb] at h3; cases h3
       have hlt : off + i * P.cellsOf e + j < arr.size := by
        rcases yO (off + i * P.cellsOf e + j) arr.size with h | h
        ·exact h
        ·rw [yY h] at h4; cases h4
       refine ⟨hlt, ?_⟩
       have : AC arr (off + i * P.cellsOf e + j) = v := by unfold AC; rw [h4]; rfl
       rw [this]; exact h2
      refine .sl β off cap (P.cellsOf e) arr el fz rows (Z3 hb) hb hl ?_ hrlen (fun i row j u hi hj => (hat i row j u hi hj).2)
      have hil := hget (rows.length - 1) (by omega)
      have hll := hrlen _ _ hil
      have h7 := (hat (rows.length - 1) _ (P.cellsOf e - 1) ((rows[rows.length - 1]'(by omega))[P.cellsOf e - 1]'(by omega)) hil (by simp)).1
      have h8 : rows.length * P.cellsOf e = (rows.length - 1) * P.cellsOf e + P.cellsOf e := by
       rw [← yQ]; congr 1; omega
      omega
    ·obtain ⟨i, hi⟩ := zM.1 hm
     obtain ⟨_, _, _, h⟩ := hrows i row hi
     exact h
  ·rename_i fs hu
   simp only [zC] at hp
   obtain ⟨xs, n, rfl, _, hcl, hxl, hf⟩ := DataW.trod_struct hu hx
   have := RS (enc := enc) (sp := sp) (held := held) (cs := cs) (fun t cs x h1 h2 => SC d n t cs x h1 h2) fs.toList 0 (by rw [hcl]; exact hp.1) hp.2 (fun f hm => by
    obtain ⟨i, hi⟩ := zM.1 hm
    have hi' : fs[i]? = some f := by simpa using hi
    have h1 := hf i f hi'
    have hlt : i < fs.size := by
     have := AT hi
     simpa using this
    exact ⟨xs[i]'(by omega), by rw [h1]; simp [show i < xs.length from by omega]⟩)
   simpa using this
  ·cases hp
end
end Go.Lift
namespace Go.Lift
open Go.RowKit Go.ChangeShapes Go.WideShapes
section
variable {P : Program}
def Zw (P : Program) (t : TypeId) (us : List T) : D := match P.underlying t with
 | some (.struct _) => .e (.agg (us.map .pure))
 | _ => .e (.one (.pure (us.headD .nil0)))
def K1 (P : Program) (d : Nat) : List TypeId → List D → Prop
 | [], [] => True
 | t :: ts, x :: xs => (∃ us, LM P d t us ∧ x = Zw P t us) ∧ K1 P d ts xs
 | _, _ => False
theorem cn {H : Type} {enc : TypeId × Value → H} {w : World} {d base : Nat} {t : TypeId} {v : Value} {x : DataW H} {ps : List MemPlace} (hp : Kp P d t = true) (hval : Value.okWide P w .any base t v) (h : DataW.Trod enc P w 0 (fun _ => true) true t v x ps) :
  ∃ us, LM P d t us ∧ Ii P w (G0 (UU w)) v (Zw P t us) := by
 obtain ⟨fuel, hf⟩ := h
 obtain ⟨us, h1, h2⟩ := SC d fuel t _ _ hp hf
 refine ⟨us, h2, ?_⟩
 have single : ∀ (v : Value), v.cells.toList = [v] → I8 w (UU w) v.cells.toList us → Ii P w (G0 (UU w)) v (.e (.one (.pure (us.headD .nil0)))) := by
  intro v hv hr
  rw [hv] at hr
  match us, hr with
  | [u], hr => exact hr.1
 unfold Zw
 cases d with
 | zero => cases hp
 | succ d =>
  unfold Kp at hp
  split at hp
  ·rename_i k hu
   rw [hu]
   obtain ⟨n, rfl⟩ := okWide_int hu hval
   exact single _ rfl h1
  ·rename_i hu
   rw [hu]
   obtain ⟨n, rfl⟩ := okWide_bool hu hval
   exact single _ rfl h1
  ·rename_i hu
   rw [hu]
   obtain ⟨n, rfl⟩ := okWide_string hu hval
   exact single _ rfl h1
  ·rename_i e hu
   rw [hu]
   obtain ⟨a, len, cap, rfl⟩ := okWide_slice hu hval
   exact single _ rfl h1
  ·rename_i fs hu
   rw [hu]
   simp only [Value.okWide, hu] at hval
   obtain ⟨cs, rfl, _, _⟩ := hval
   have h1 : I8 w (UU w) cs.toList us := h1
   refine ⟨cs, rfl, by simpa using h1.len, fun j c hj => ?_⟩
   rw [zH] at hj
   cases hx : us[j]? with
   | none => rw [hx] at hj; cases hj
   | some u =>
    rw [hx] at hj; cases hj
    obtain ⟨v, h3, h4⟩ := h1.get j u hx
    have : AC cs j = v := by unfold AC; rw [show cs[j]? = some v from by simpa using h3]; rfl
    rw [this]; exact h4
  ·cases hp
theorem VQ {H : Type} {enc : TypeId × Value → H} {w : World} {d base : Nat} : ∀ {ts : List TypeId} {vs : List Value} {ds : List (DataW H)} {ps : List MemPlace}, (ts.all (Kp P d)) = true → (∀ (j : Nat) t v, ts[j]? = some t → vs[j]? = some v → Value.okWide P w .any base t v) →
  DataW.TrodAll enc P w 0 (fun _ => true) true ts vs ds ps → ∃ Ds, K1 P d ts Ds ∧ vs.length = Ds.length ∧ ds.length = ts.length ∧ ∀ (j : Nat) (x : D), Ds[j]? = some x → ∃ v, vs[j]? = some v ∧ Ii P w (G0 (UU w)) v x
 | [], [], [], _, _, _, _ => ⟨[], trivial, rfl, rfl, fun j x h => by simp at h⟩
 | t :: ts, v :: vs, x :: xs, _, hp, hval, h => by
  obtain ⟨p, q, h1, h2, _⟩ := h
  simp only [xB, zC] at hp
  obtain ⟨us, h3, h4⟩ := cn hp.1 (hval 0 t v rfl rfl) h1
  obtain ⟨Ds, h5, h6, h7, h8⟩ := VQ hp.2 (fun j t v hj hv => hval (j + 1) t v (by simpa using hj) (by simpa using hv)) h2
  refine ⟨Zw P t us :: Ds, ⟨⟨us, h3, rfl⟩, h5⟩, by simp [h6], by simp [h7], fun j y hj => ?_⟩
  cases j with
  | zero => simp at hj; subst hj; exact ⟨v, rfl, h4⟩
  | succ j =>
   obtain ⟨v', g1, g2⟩ := h8 j y (by simpa using hj)
   exact ⟨v', by simpa using g1, g2⟩
 | [], [], _ :: _, _, _, _, h => h.elim
 | [], _ :: _, _, _, _, _, h => by cases ‹List (DataW H)› <;> exact h.elim
 | _ :: _, [], _, _, _, _, h => by cases ‹List (DataW H)› <;> exact h.elim
 | _ :: _, _ :: _, [], _, _, _, h => h.elim
theorem MI {H : Type} {enc : TypeId × Value → H} (hl : laidOutB P = true) {W W' : World} (hb : Below W.heap.size W W') : ∀ {ts : List TypeId} {vs : List Value} {ds : List (DataW H)} {ps : List MemPlace}, (ts.all fun t => P.readableRec t && decide (t < P.types.size)) = true →
  DataW.TrodAll enc P W 0 (fun _ => true) true ts vs ds ps → (∀ x ∈ ps, x.block < W.heap.size) → DataW.TrodAll enc P W' 0 (fun b => decide (b < W.heap.size)) true ts vs ds ps
 | [], [], [], _, _, h, _ => h
 | t :: ts, v :: vs, x :: xs, _, hr, h, hlt => by
  obtain ⟨p, q, h1, h2, rfl⟩ := h
  simp only [xB, zC, decide_eq_true_eq] at hr
  refine ⟨p, q, Below.trod hl hr.1.1 hr.1.2 h1 hb (fun y hy => hlt y (by simp [hy])), MI hl hb (by simpa using hr.2) h2 (fun y hy => hlt y (by simp [hy])), rfl⟩
 | [], [], _ :: _, _, _, h, _ => h.elim
 | [], _ :: _, _, _, _, h, _ => by cases ‹List (DataW H)› <;> exact h.elim
 | _ :: _, [], _, _, _, h, _ => by cases ‹List (DataW H)› <;> exact h.elim
 | _ :: _, _ :: _, [], _, _, h, _ => h.elim
end
end Go.Lift
namespace Go.Lift
open Go.RowKit
section
variable {P : Program}
def Wl {α : Type} (P : Program) (t : TypeId) (e : α → List T) (W : α → Prop) : Prop := ∀ (d : Nat) (ts : List T), LM P d t ts → ∃ x, ts = e x ∧ W x
theorem V4 {t : TypeId} {k : IntKind} {e : Int → List T} (h : QJ P t k = true) (he : ∀ n, e n = [.val (.int k n)]) : Wl P t e (fun n => (Lit.int k n).wf = true) := by
 intro d ts hf
 cases d with
 | zero => exact hf.elim
 | succ d =>
  unfold QJ at h
  unfold LM at hf
  split at h
  ·rename_i k' hu
   rw [hu] at hf
   obtain ⟨n, rfl, hw⟩ := hf
   have : k' = k := by simpa using h
   subst this
   exact ⟨n, (he n).symm, hw⟩
  ·cases h
theorem WX {t : TypeId} {e : Bool → List T} (h : Rh P t = true) (he : ∀ n, e n = [.val (.bool n)]) : Wl P t e (fun _ => True) := by
 intro d ts hf
 cases d with
 | zero => exact hf.elim
 | succ d =>
  unfold Rh at h
  unfold LM at hf
  split at h
  ·rename_i hu
   rw [hu] at hf
   obtain ⟨n, rfl⟩ := hf
   exact ⟨n, (he n).symm, trivial⟩
  ·cases h
theorem PW {α : Type} {e : α → List T} {W : α → Prop} : ∀ (rows : List (List T)), (∀ row, row ∈ rows → ∃ x, row = e x ∧ W x) → ∃ xs : List α, rows = xs.map e ∧ ∀ x, x ∈ xs → W x
 | [], _ => ⟨[], rfl, fun x h => by cases h⟩
 | r :: rows, h => by
  obtain ⟨x, rfl, hx⟩ := h r (by simp)
  obtain ⟨xs, rfl, hxs⟩ := PW rows (fun row hr => h row (by simp [hr]))
  exact ⟨x :: xs, rfl, fun y hy => by
   rcases yL.1 hy with e | e
   ·subst e; exact hx
   ·exact hxs y e⟩
theorem RP {α : Type} {t el : TypeId} {e : α → List T} {W : α → Prop} {e2 : List α → List T} (h : sliceB P t el = true) (he : Wl P el e W) (h2 : ∀ xs, e2 xs = [.sl (xs.map e)]) : Wl P t e2 (fun xs => ∀ x, x ∈ xs → W x) := by
 intro d ts hf
 cases d with
 | zero => exact hf.elim
 | succ d =>
  unfold sliceB at h
  unfold LM at hf
  split at h
  ·rename_i e' hu
   rw [hu] at hf
   obtain ⟨rows, rfl, hr⟩ := hf
   have : e' = el := by simpa using h
   subst this
   obtain ⟨xs, rfl, hxs⟩ := PW rows (fun row hm => he d row (hr row hm))
   exact ⟨xs, (h2 xs).symm, hxs⟩
  ·cases h
def H9 (P : Program) (t : TypeId) : Option (List TypeId) := match P.underlying t with | some (.struct fs) => some (fs.toList.map (·.type)) | _ => none
theorem M7 {t : TypeId} {tys : List TypeId} (h : H9 P t = some tys) {d : Nat} {ts : List T} (hf : LM P d t ts) : ∃ d', ZM (LM P d') tys ts := by
 cases d with
 | zero => exact hf.elim
 | succ d =>
  unfold H9 at h
  unfold LM at hf
  split at h
  ·rename_i fs hu
   cases h
   rw [hu] at hf
   exact ⟨d, hf⟩
  ·cases h
theorem Ur {t : TypeId} {tys : List TypeId} (h : H9 P t = some tys) (us : List T) : Zw P t us = .e (.agg (us.map .pure)) := by
 unfold H9 at h
 unfold Zw
 revert h
 cases P.underlying t with
 | none => intro h; cases h
 | some k => cases k <;> intro h <;> first | rfl | cases h
theorem ZN {t : TypeId} (h : H9 P t = none) (us : List T) : Zw P t us = .e (.one (.pure (us.headD .nil0))) := by
 unfold H9 at h
 unfold Zw
 revert h
 cases P.underlying t with
 | none => intro _; rfl
 | some k => cases k <;> intro h <;> first | rfl | cases h
theorem NG {d : Nat} {t : TypeId} {ts : List TypeId} {Ds : List D} (h : K1 P d (t :: ts) Ds) : ∃ us xs, Ds = Zw P t us :: xs ∧ LM P d t us ∧ K1 P d ts xs := by
 cases Ds with
 | nil => exact h.elim
 | cons x xs => obtain ⟨⟨us, h1, rfl⟩, h2⟩ := h; exact ⟨us, xs, rfl, h1, h2⟩
theorem Tw {d : Nat} {Ds : List D} (h : K1 P d [] Ds) : Ds = [] := by
 cases Ds with
 | nil => rfl
 | cons x xs => exact h.elim
end
end Go.Lift
namespace Go.Lift
open List renaming mem_of_getElem? → lM
open List renaming getD_eq_getElem?_getD → lD
open Go.RowKit
variable {P : Program} {X : IT} {ops : Array Oper}
instance : Inhabited B8 := ⟨.gone⟩
def JM (n m b : Nat) : Bool := if Cz b then Nat.blt (b - 90000) n else Nat.blt b m
def Vn (G : Gh) (n : Nat) (β : Nat) : Prop := ∃ k, k < n ∧ G.has (90000 + k) β
theorem JS {k : Nat} (h : k < 1000) : Cz (90000 + k) = true := by
 unfold Cz
 rw [uH (by omega), uH (by omega)]; rfl
theorem Wg {k : Nat} (h : k < 900) : RU (90000 + k) = true := by
 unfold RU
 rw [zC]
 exact ⟨uH (by omega), uH (by omega)⟩
theorem K5 {b : Nat} (h : Cz b = true) : ∃ k, k < 1000 ∧ b = 90000 + k := by
 unfold Cz at h
 rw [zC] at h
 have h1 := yH h.1
 have h2 := yH h.2
 exact ⟨b - 90000, by omega, by omega⟩
def E8 (P : Program) (f : FuncId) (args : List D) (lent : List (B8 × B8)) (rv : List B8) (res : D) : Prop :=
 ∀ (w : World) (G : Gh) (vs : Array Value), (∀ β, G.S β → β < w.heap.size) → Y2 P w G.S →
  (∀ (k : Nat) (x : B8 × B8), lent[k]? = some x → FZ P w G (90000 + k) x.1) →
  (∀ k β, k < lent.length → G.has (90000 + k) β → β < w.heap.size ∧ ¬ G.S β) →
  (∀ k l β, k < lent.length → l < lent.length → G.has (90000 + k) β → G.has (90000 + l) β → k = l) →
  vs.size = args.length → (∀ (j : Nat) (d : D), args[j]? = some d → Ii P w G (AC vs j) d) →
  Calls P f vs w fun e w' => ∃ v G', e = .returned v ∧ DV (Vn G lent.length) w.heap.size w w' ∧ (∀ β, G.S β → G'.S β) ∧ (∀ β, G'.S β → G.S β ∨ (w.heap.size ≤ β ∧ β < w'.heap.size)) ∧ Ii P w' G' v res ∧
   (∀ (k : Nat) (x : B8 × B8), lent[k]? = some x → FZ P w' G' (90000 + k) x.2) ∧
   (∀ (k : Nat) (x : B8), rv[k]? = some x → FZ P w' G' k x) ∧
   (∀ k, k < lent.length → G'.loc (90000 + k) = G.loc (90000 + k) ∧ G'.hd (90000 + k) = G.hd (90000 + k) ∧ G'.more (90000 + k) = G.more (90000 + k)) ∧
   (∀ k β, k < lent.length → G'.has (90000 + k) β → ¬ G'.S β) ∧
   (∀ k β, k < rv.length → G'.has k β → w.heap.size ≤ β ∧ β < w'.heap.size ∧ ¬ G'.S β) ∧
   (∀ k l β, k < rv.length → l < rv.length → G'.has k β → G'.has l β → k = l)
def Rk (args : List D) (lent : List (B8 × B8)) : St := ⟨fun s => args[s]?, fun b => if Cz b then (lent[b - 90000]?).map (·.1) else none⟩
def SV (bx : Nat → Option B8) (f : Nat → Nat) : Nat → List (B8 × B8) → Prop
 | _, [] => True
 | k, x :: xs => bx (90000 + k) = some (x.2.ren f) ∧ SV bx f (k + 1) xs
def U8 (bx : Nat → Option B8) (f : Nat → Nat) : Nat → List B8 → Prop
 | _, [] => True
 | k, x :: xs => bx (1000 + k) = some (x.ren f) ∧ U8 bx f (k + 1) xs
theorem OS {bx : Nat → Option B8} {f : Nat → Nat} : ∀ {l : List (B8 × B8)} {m : Nat}, SV bx f m l → ∀ (k : Nat) (x : B8 × B8), l[k]? = some x → bx (90000 + (m + k)) = some (x.2.ren f)
 | y :: rv, m, h, 0, x, hk => by simp at hk; subst hk; exact h.1
 | y :: rv, m, h, k + 1, x, hk => by
  have := OS h.2 k x (by simpa using hk)
  rwa [show m + 1 + k = m + (k + 1) from by omega] at this
theorem Ps {bx : Nat → Option B8} {f : Nat → Nat} : ∀ {l : List B8} {m : Nat}, U8 bx f m l → ∀ (k : Nat) (x : B8), l[k]? = some x → bx (1000 + (m + k)) = some (x.ren f)
 | y :: rv, m, h, 0, x, hk => by simp at hk; subst hk; exact h.1
 | y :: rv, m, h, k + 1, x, hk => by
  have := Ps h.2 k x (by simpa using hk)
  rwa [show m + 1 + k = m + (k + 1) from by omega] at this
def MA (b : Nat) : Nat := if Cz b then b else 1000 + b
structure Yl (P : Program) (rs : List ResultVar) (st : St) (lent : List (B8 × B8)) (rv : List B8) (res : D) : Prop where
 r : ∃ xs, ff P st rs xs ∧ eN xs = res.ren MA
 l : SV st.bx MA 0 lent
 v : U8 st.bx MA 0 rv
def IG (n m : Nat) (l : List Nat) : Bool := l.all (JM n m)
theorem EY {f n : Nat} {fn : Func} {c : Code} {args : List D} {lent : List (B8 × B8)} {rv : List B8} {res : D} {rs : List ResultVar} (hf : P.funcs[f]? = some fn) (hb : fn.body = some c) (hn : fn.ntmps = n) (hrs : fn.results.toList = rs) (hl : args.length ≤ n) (hn9 : n ≤ 90000)
  (hargs : (args.all fun d => IG lent.length 0 d.names) = true) (hpre : (lent.all fun x => IG lent.length 0 x.1.names && x.1.real && x.2.real) = true) (hll : lent.length ≤ 900) (hrl : (rv.all fun x => x.real) = true) (hrn : rv.length ≤ 1000)
  (h : ∀ (w0 : World) (S0 : Nat → Prop) (GL : Gh), W P ⟨w0, S0, n, GL⟩ c (fun e st => match e with | .normal | .ret => Yl P rs st lent rv res | _ => False) (Rk args lent)) : E8 P f args lent rv res := by
 subst hn; subst hrs
 intro w G vs hS hgk hlb hla hli hlen hrd
 refine calls_of_wp hf hb ?_
 have hcell : ∀ j, j < args.length → AC (vs ++ zA2 (fn.ntmps - vs.size) undef) j = AC vs j := fun j hj => DX (by omega)
 -- the ghost that knows of what is lent alone
 let dom : Nat → Prop := fun b => Cz b = true ∧ b - 90000 < lent.length
 have hdec : ∀ b, Decidable (dom b) := fun b => inferInstanceAs (Decidable (_ ∧ _))
 let GL : Gh := { S := G.S, loc := fun b => if dom b then G.loc b else none, hd := fun b => if dom b then G.hd b else undef, more := fun b => if dom b then G.more b else fun _ => False }
 have hext : G.ext GL dom := ⟨fun _ h => h, fun b hb => if_pos hb, fun b hb => if_pos hb, fun b hb => if_pos hb⟩
 have hdomk : ∀ k, k < lent.length → dom (90000 + k) := fun k hk => ⟨JS (by omega), by omega⟩
 have hin : ∀ b, JM lent.length 0 b = true → dom b := by
  intro b hb
  unfold JM at hb
  split at hb
  ·rename_i hl; exact ⟨hl, by rwa [uC] at hb⟩
  ·simp [Nat.blt] at hb
 have hhas : ∀ b β, GL.has b β → dom b ∧ G.has b β := by
  intro b β hb
  by_cases hd : dom b
  ·exact ⟨hd, (hext.has hd).1 hb⟩
  ·exfalso
   unfold Gh.has at hb
   simp only [GL] at hb
   rw [if_neg hd, if_neg hd] at hb
   rcases hb with h | h
   ·cases h
   ·exact h
 have hlent : ∀ β, GL.lent β ↔ Vn G lent.length β := by
  intro β
  constructor
  ·rintro ⟨b, hb, hb2⟩
   obtain ⟨hd, hg⟩ := hhas b β hb2
   obtain ⟨k, _, rfl⟩ := K5 hb
   exact ⟨k, by have := hd.2; omega, hg⟩
  ·rintro ⟨k, hk, hg⟩
   exact ⟨90000 + k, JS (by omega), (hext.has (hdomk k hk)).2 hg⟩
 have hbx : ∀ b k, (Rk args lent).bx b = some k → dom b ∧ ∃ x, lent[b - 90000]? = some x ∧ x.1 = k := by
  intro b k hk
  simp only [Rk] at hk
  split at hk
  ·rename_i hb
   cases hx : lent[b - 90000]? with
   | none => rw [hx] at hk; cases hk
   | some x => rw [hx] at hk; cases hk; exact ⟨⟨hb, AT hx⟩, x, rfl, rfl⟩
  ·cases hk
 have hdn : ∀ b, dom b → ((Rk args lent).bx b).isSome = true := by
  intro b hb
  simp only [Rk]
  rw [if_pos hb.1]
  simp [hb.2]
 have hpre' : ∀ x, x ∈ lent → IG lent.length 0 x.1.names = true ∧ x.1.real = true ∧ x.2.real = true := fun x hx => by
  have := zD.1 hpre x hx
  rw [zC, zC] at this
  exact ⟨this.1.1, this.1.2, this.2⟩
 have hbk : ∀ b, dom b → b = 90000 + (b - 90000) := fun b hb => by obtain ⟨k, _, e⟩ := K5 hb.1; omega
 have hinit : DQ P ⟨w, G.S, fn.ntmps, GL⟩ GL (Rk args lent) { tmps := vs ++ zA2 (fn.ntmps - vs.size) undef, defers := [] } w := by
  refine { S_lt := hS, S_src := fun β h => .inl h, S_0 := fun β h => h, S0_lt := hS, tsz := by simp; omega, defers := rfl, below := DV.refl _ _ _, gok := hgk, nlt := hn9, lent := fun _ _ => ⟨rfl, rfl, rfl⟩, blk := ?_, at_ok := ?_, at_inj := ?_, env := ?_, live := ?_, liveB := ?_ }
  ·intro b k hk
   obtain ⟨hd, x, hx, rfl⟩ := hbx b k hk
   have h1 := hlb _ x hx
   rw [← hbk b hd] at h1
   exact h1.mono hext hd (fun _ _ => rfl) (fun _ _ _ => rfl) fun c hc => hin c (zD.1 (hpre' x (lM hx)).1 c hc)
  ·intro b k β hk hr hβ
   obtain ⟨hd, hg⟩ := hhas b β hβ
   rw [hbk b hd] at hg
   have := hla _ β hd.2 hg
   exact ⟨⟨fun h3 => (by rw [hd.1] at h3; cases h3), .inr ⟨b, hd.1, hβ⟩⟩, this.1, this.2⟩
  ·intro b c k l β hk hl hr hr' hβ hβ'
   obtain ⟨hd, hg⟩ := hhas b β hβ
   obtain ⟨hd', hg'⟩ := hhas c β hβ'
   rw [hbk b hd] at hg
   rw [hbk c hd'] at hg'
   have := hli _ _ β hd.2 hd'.2 hg hg'
   rw [hbk b hd, hbk c hd', this]
  ·intro s d hs
   have hs' : args[s]? = some d := hs
   rw [hcell s (AT hs')]
   exact (hrd s d hs').mono hext (fun _ _ => rfl) fun b hb => hin b (zD.1 (zD.1 hargs d (lM hs')) b hb)
  ·intro s d hs b hb
   have hs' : args[s]? = some d := hs
   exact hdn b (hin b (zD.1 (zD.1 hargs d (lM hs')) b hb))
  ·intro b k hk c hc
   obtain ⟨hd, x, hx, rfl⟩ := hbx b k hk
   exact hdn c (hin c (zD.1 (hpre' x (lM hx)).1 c hc))
 refine wp_mono (h w G.S GL _ w ⟨_, hinit⟩) ?_
 rintro e a' w' ⟨st', hq, G2, hs⟩
 have key : Yl P fn.results.toList st' lent rv res → a'.defers = [] ∧ ∃ v, (results fn a'.tmps).run P w' = .ok v w' ∧ ∃ v' G', Ending.returned v = .returned v' ∧ DV (Vn G lent.length) w.heap.size w w' ∧ (∀ β, G.S β → G'.S β) ∧ (∀ β, G'.S β → G.S β ∨ (w.heap.size ≤ β ∧ β < w'.heap.size)) ∧ Ii P w' G' v' res ∧
   (∀ (k : Nat) (x : B8 × B8), lent[k]? = some x → FZ P w' G' (90000 + k) x.2) ∧
   (∀ (k : Nat) (x : B8), rv[k]? = some x → FZ P w' G' k x) ∧
   (∀ k, k < lent.length → G'.loc (90000 + k) = G.loc (90000 + k) ∧ G'.hd (90000 + k) = G.hd (90000 + k) ∧ G'.more (90000 + k) = G.more (90000 + k)) ∧
   (∀ k β, k < lent.length → G'.has (90000 + k) β → ¬ G'.S β) ∧
   (∀ k β, k < rv.length → G'.has k β → w.heap.size ≤ β ∧ β < w'.heap.size ∧ ¬ G'.S β) ∧
   (∀ k l β, k < rv.length → l < rv.length → G'.has k β → G'.has l β → k = l) := by
  rintro ⟨⟨xs, hr1, hr2⟩, hlp, hv⟩
  obtain ⟨us, h1, h2, h3⟩ := hs.rrs hr1
  have hoL : ∀ k, k < lent.length → MA (90000 + k) = 90000 + k := fun k hk => by unfold MA; rw [JS (by omega)]; rfl
  have hoN : ∀ k, k < rv.length → MA k = 1000 + k := fun k hk => by unfold MA; rw [KD (show k < 1000 by omega) (by omega)]; rfl
  have hbl : ∀ (k : Nat) (x : B8 × B8), lent[k]? = some x → st'.bx (90000 + k) = some (x.2.ren MA) := fun k x hk => by
   have := OS hlp k x hk
   rwa [zI] at this
  have hbv : ∀ (k : Nat) (x : B8), rv[k]? = some x → st'.bx (1000 + k) = some (x.ren MA) := fun k x hk => by
   have := Ps hv k x hk
   rwa [zI] at this
  have hreal : ∀ (k : Nat) (x : B8), rv[k]? = some x → (x.ren MA).real = true := fun k x hk => by
   rw [Kz]; exact zD.1 hrl x (lM hk)
  have hgl : ∀ k, k < lent.length → G2.loc (90000 + k) = G.loc (90000 + k) ∧ G2.hd (90000 + k) = G.hd (90000 + k) ∧ G2.more (90000 + k) = G.more (90000 + k) := fun k hk => by
   obtain ⟨e1, e2, e3⟩ := hs.lent (90000 + k) (Wg (by omega))
   exact ⟨e1.trans (hext.loc _ (hdomk k hk)), e2.trans (hext.hd _ (hdomk k hk)), e3.trans (hext.more _ (hdomk k hk))⟩
  refine ⟨hs.defers, (if h : us.toArray.size = 1 then us.toArray[0] else .tuple us.toArray), ?_, _, { S := G2.S, loc := fun b => G2.loc (MA b), hd := fun b => G2.hd (MA b), more := fun b => G2.more (MA b) }, rfl, ?_, hs.S_0, ?_, ?_, ?_, ?_, ?_, ?_, ?_, ?_⟩
  ·unfold results
   refine Am (a := us.toArray) (w1 := w') ?_ rfl
   rw [Array.mapM_eq_mapM_toList]
   simp only [Sem.run_map]
   exact congrArg (fun r => Result.andThen r fun a w' => Result.ok a.toArray w') h1
  ·have hb := hs.below
   exact ⟨hb.os, hb.tape, hb.output, hb.size, hb.drawn, fun k hk hl => hb.block k hk fun h => hl ((hlent k).1 h)⟩
  ·intro β hβ
   rcases hs.S_src β hβ with h | h
   ·exact .inl h
   ·exact .inr ⟨h, hs.S_lt β hβ⟩
  ·refine KR (f := MA) ?_
   rw [← hr2]
   match xs, us, h2 with
   | [], [], _ => exact ⟨#[], rfl, rfl, fun j x h => by simp at h⟩
   | [x], [u], _ => exact h3 0 u x rfl rfl
   | x :: y :: xs, u :: u' :: us, hl2 =>
    refine ⟨(u :: u' :: us).toArray, by simp, by simpa using hl2, fun j z hj => ?_⟩
    have hlt := AT hj
    have hu : (u :: u' :: us)[j]? = some ((u :: u' :: us)[j]'(by rw [hl2]; exact hlt)) := by rw [zQ]
    have := h3 j _ z hu hj
    have hc : AC (u :: u' :: us).toArray j = (u :: u' :: us)[j]'(by rw [hl2]; exact hlt) := by
     unfold AC
     rw [List.getElem?_toArray, hu]; rfl
    rw [hc]; exact this
  ·intro k x hk
   refine KT (f := MA) ?_
   rw [hoL k (AT hk)]
   exact hs.blk _ _ (hbl k x hk)
  ·intro k x hk
   refine KT (f := MA) ?_
   rw [hoN k (AT hk)]
   exact hs.blk _ _ (hbv k x hk)
  ·intro k hk
   simp only [hoL k hk]
   exact hgl k hk
  ·intro k β hk hβ
   have hx : lent[k]? = some lent[k] := by simp [hk]
   have hβ : G2.has (90000 + k) β := by
    unfold Gh.has at hβ ⊢
    simp only [hoL k hk] at hβ
    exact hβ
   exact (hs.at_ok _ _ β (hbl k _ hx) (by rw [Kz]; exact (hpre' _ (lM hx)).2.2) hβ).2.2
  ·intro k β hk hβ
   have hx : rv[k]? = some rv[k] := by simp [hk]
   have hβ : G2.has (1000 + k) β := by
    unfold Gh.has at hβ ⊢
    simp only [hoN k hk] at hβ
    exact hβ
   have := hs.at_ok _ _ β (hbv k _ hx) (hreal k _ hx) hβ
   exact ⟨this.1.1 (KD (show 1000 + k < 3000 by omega) (by omega)), this.2⟩
  ·intro k l β hk hl hβ hβ'
   have hx : rv[k]? = some rv[k] := by simp [hk]
   have hx' : rv[l]? = some rv[l] := by simp [hl]
   have hβ : G2.has (1000 + k) β := by
    unfold Gh.has at hβ ⊢
    simp only [hoN k hk] at hβ
    exact hβ
   have hβ' : G2.has (1000 + l) β := by
    unfold Gh.has at hβ' ⊢
    simp only [hoN l hl] at hβ'
    exact hβ'
   have := hs.at_inj _ _ _ _ β (hbv k _ hx) (hbv l _ hx') (hreal k _ hx) (hreal l _ hx') hβ hβ'
   omega
 cases e with
 | normal => exact key hq
 | ret => exact key hq
 | _ => exact hq.elim
def nu (ls ns : List Nat) (b : Nat) : Nat := if Cz b then ls.getD (b - 90000) 0 else ns.getD b 0
def Qd (f : Nat → Nat) : List Nat → List (B8 × B8) → List (Nat × B8)
 | l :: ls, x :: xs => (l, x.1.ren f) :: Qd f ls xs
 | _, _ => []
def Jz (f : Nat → Nat) : List Nat → List (B8 × B8) → List Bool → List (Nat × B8) → List (Nat × B8)
 | l :: ls, x :: xs, c :: cs, r => if c then (l, x.2.ren f) :: Jz f ls xs cs r else Jz f ls xs cs r
 | _, _, _, r => r
def newB (f : Nat → Nat) : List Nat → List B8 → List (Nat × B8)
 | n :: ns, x :: xs => (n, x.ren f) :: newB f ns xs
 | _, _ => []
def Vi : List (B8 × B8) → List Bool → Prop
 | x :: xs, c :: cs => (c = false → x.1 = x.2) ∧ Vi xs cs
 | [], [] => True
 | _, _ => False
theorem Re {f : Nat → Nat} {bx : Nat → Option B8} : ∀ {ls : List Nat} {lent : List (B8 × B8)}, ls.length = lent.length → Iy bx (Qd f ls lent) → ∀ (k : Nat) (x : B8 × B8), lent[k]? = some x → bx (nm ls k) = some (x.1.ren f)
 | [], [], _, _, k, y, hk => by simp at hk
 | l :: ls, x :: xs, hl, h, 0, y, hk => by simp at hk; subst hk; exact h.1
 | l :: ls, x :: xs, hl, h, k + 1, y, hk => by
  have := Re (ls := ls) (lent := xs) (by simpa using hl) h.2 k y (by simpa using hk)
  simpa [nm] using this
theorem Rz {f : Nat → Nat} {bx : Nat → Option B8} {r : List (Nat × B8)} : ∀ {ls : List Nat} {lent : List (B8 × B8)} {ch : List Bool}, ls.length = lent.length → ls.Nodup → Vi lent ch → (∀ c, c ∈ ls → Cw bx r c = bx c) → Iy bx (Qd f ls lent) →
  (∀ c, c ∉ ls → Cw bx (Jz f ls lent ch r) c = Cw bx r c) ∧ ∀ (k : Nat) (x : B8 × B8), lent[k]? = some x → Cw bx (Jz f ls lent ch r) (nm ls k) = some (x.2.ren f)
 | [], [], [], _, _, _, _, _ => ⟨fun _ _ => rfl, fun k x h => by simp at h⟩
 | [], [], _ :: _, _, _, h, _, _ => h.elim
 | l :: ls, x :: xs, [], hl, hnd, hc, hr, hp => by cases hc
 | l :: ls, x :: xs, c :: cs, hl, hnd, hc, hr, hp => by
  have ih := Rz (f := f) (bx := bx) (r := r) (ls := ls) (lent := xs) (ch := cs) (by simpa using hl) (xH.1 hnd).2 hc.2 (fun c hc => hr c (by simp [hc])) hp.2
  have hln : l ∉ ls := (xH.1 hnd).1
  have hl0 : Cw bx (Jz f ls xs cs r) l = bx l := (ih.1 l hln).trans (hr l (by simp))
  refine ⟨fun d hd => ?_, fun k y hk => ?_⟩
  ·simp only [yL, not_or] at hd
   simp only [Jz]
   split
   ·simp only [Cw]; rw [if_neg hd.1]; exact ih.1 d hd.2
   ·exact ih.1 d hd.2
  ·cases k with
   | zero =>
    simp at hk; subst hk
    simp only [Jz, nm, zB6]
    split
    ·simp [Cw]
    ·rename_i hcc
     have hcf : c = false := by simpa using hcc
     rw [hl0, hp.1, hc.1 hcf]
   | succ k =>
    have hk' : xs[k]? = some y := by simpa using hk
    have hlt := AT hk'
    have hlt2 : k < ls.length := by simp at hl; omega
    have e : nm (l :: ls) (k + 1) = nm ls k := by simp [nm]
    rw [e]
    have hne : nm ls k ≠ l := fun h => hln (h ▸ Gr hlt2)
    simp only [Jz]
    split
    ·simp only [Cw]; rw [if_neg hne]; exact ih.2 k y hk'
    ·exact ih.2 k y hk'
theorem Pw {f : Nat → Nat} {bx : Nat → Option B8} : ∀ {ns : List Nat} {rv : List B8} {c : Nat}, ns.length = rv.length → ns.Nodup →
  (c ∉ ns → Cw bx (newB f ns rv) c = bx c) ∧ ∀ (k : Nat) (x : B8), rv[k]? = some x → Cw bx (newB f ns rv) (nm ns k) = some (x.ren f)
 | [], [], c, _, _ => ⟨fun _ => rfl, fun k x h => by simp at h⟩
 | n :: ns, x :: xs, c, hl, hnd => by
  have ih := Pw (f := f) (bx := bx) (ns := ns) (rv := xs) (c := c) (by simpa using hl) (xH.1 hnd).2
  refine ⟨fun hc => ?_, fun k y hk => ?_⟩
  ·simp only [yL, not_or] at hc
   simp only [newB, Cw]
   rw [if_neg hc.1]; exact ih.1 hc.2
  ·cases k with
   | zero => simp at hk; subst hk; simp [newB, Cw, nm]
   | succ k =>
    have hk' : xs[k]? = some y := by simpa using hk
    have hlt := AT hk'
    have hlt2 : k < ns.length := by simp at hl; omega
    have : nm (n :: ns) (k + 1) = nm ns k := by simp [nm]
    rw [this]
    have hne : nm ns k ≠ n := fun e => (xH.1 hnd).1 (e ▸ Gr hlt2)
    simp only [newB, Cw]
    rw [if_neg hne]
    exact (Pw (f := f) (bx := bx) (ns := ns) (rv := xs) (c := c) (by simpa using hl) (xH.1 hnd).2).2 k y hk'
theorem Ia {ls ns : List Nat} {k : Nat} (h : k < 1000) : nu ls ns (90000 + k) = nm ls k := by
 unfold nu nm; rw [JS h, if_pos rfl, show 90000 + k - 90000 = k from by omega]
theorem OA {ls ns : List Nat} {k : Nat} (h : k < 90000) : nu ls ns k = nm ns k := by
 unfold nu nm; rw [KD h (yD _), if_neg (by simp)]
theorem QD {bx : Nat → Option B8} {c : Nat} : ∀ {wb : List (Nat × B8)}, (bx c).isSome = true → (Cw bx wb c).isSome = true
 | [], h => h
 | p :: ps, h => by
  simp only [Cw]; split
  ·rfl
  ·exact QD h
section run
variable {dr : Bool} {Q : St → Prop} {r i : Nat} {st : St} {log : List (Nat × C6)} {o : Oper} {gs : List (Operand × D)}
theorem Xm {f s : Nat} {xs : List Operand} {ds0 ds : List D} {lent : List (B8 × B8)} {rv : List B8} {res : D} {ts : Array TypeId} (ls ns : List Nat) (ch : List Bool) (hc : E8 P f ds lent rv res) (hat : At st.env ops i X.n (.call ⟨.value (.func f), xs.toArray, ts⟩) s gs)
  (hf : AE P f = true) (hl : xs.length = ds0.length) (hds : ds0.map D.nrm = ds.map (D.ren (nu ls ns)))
  (hll : ls.length = lent.length) (hln : ls.Nodup) (hns : ns.length = rv.length) (hndl : LD ns) (hch : Vi lent ch)
  (hlim : (xQ lent.length 1000 && xQ rv.length 1000) = true) (hre : (lent.all fun x => x.1.real && x.2.real) = true)
  (hnm : (IG lent.length rv.length res.names && (lent.all fun x => IG lent.length rv.length x.2.names) && rv.all fun x => IG lent.length rv.length x.names) = true) : LR P X ops i ⟨gs ++ IB xs ds0, Qd (nu ls ns) ls lent, some s, some (res.ren (nu ls ns)), Jz (nu ls ns) ls lent ch (newB (nu ls ns) ns rv), ns⟩ := by
 obtain ⟨o, ho, hop, hd, hn, hg, hgp⟩ := hat.out
 have hnd := hndl.1
 rw [zC] at hlim
 have hlim1 := yH hlim.1
 have hlim2 := yH hlim.2
 rw [zC, zC] at hnm
 obtain ⟨⟨hnmR, hnmL⟩, hnmV⟩ := hnm
 have hre' : ∀ x, x ∈ lent → x.1.real = true ∧ x.2.real = true := fun x hx => by
  have := zD.1 hre x hx
  rw [zC] at this
  exact this
 intro st a w K Q' hs hpre hK
 obtain ⟨G, hs⟩ := hs
 have hx := (Ar.1 hpre.r).2
 have hw := hs.wanted hg (Ar.1 hpre.r).1
 have hnew := hpre.n
 have hlb := hpre.b
 have hnew' : ∀ c, c ∈ ns → st.bx c = none := by
  have : ∀ {l : List Nat}, On st.bx l → ∀ c, c ∈ l → st.bx c = none := by
   intro l
   induction l with
   | nil => intro _ c hc; cases hc
   | cons b l ih =>
    intro h c hc
    rcases yL.1 hc with e | e
    ·subst e; exact h.1
    ·exact ih h.2 c e
  exact this hnew
 have hget := fun k x hk => Re (f := nu ls ns) hll hlb k x hk
 have hlk : ∀ k, k < lent.length → st.bx (nm ls k) = some (lent[k]!.1.ren (nu ls ns)) ∧ (lent[k]!.1.ren (nu ls ns)).real = true := fun k hk => by
  have hx0 : lent[k]? = some lent[k]! := by simp [hk]
  exact ⟨hget k _ hx0, by rw [Kz]; exact (hre' _ (lM hx0)).1⟩
 have hlsns : ∀ c, c ∈ ls → c ∉ ns := fun c hc hm => by
  obtain ⟨k, hk, e⟩ := PE hc
  have := (hlk k (by omega)).1
  rw [e, hnew' c hm] at this; cases this
 unfold wpOp
 rw [ho]
 simp only [hw, if_true]
 refine .inl ?_
 unfold Oper.wp
 have hrun : (execOp a.eval o).run P w = .ok (.enter f (xs.toArray.map a.eval)) w := by
  simp only [execOp, hop]
  exact LG hf rfl
 rw [hrun]
 show Calls P f (xs.toArray.map a.eval) w _
 let Gc : Gh := { S := G.S, loc := fun b => G.loc (nu ls ns b), hd := fun b => G.hd (nu ls ns b), more := fun b => G.more (nu ls ns b) }
 have hGc : ∀ k β, k < lent.length → (Gc.has (90000 + k) β ↔ G.has (nm ls k) β) := fun k β hk => by
  unfold Gh.has; simp only [Gc]; rw [Ia (by omega)]
 refine (hc w Gc (xs.toArray.map a.eval) hs.S_lt hs.gok ?_ ?_ ?_ ?_ ?_).mono ?_
 ·intro k x hk
  refine KT (f := nu ls ns) ?_
  rw [Ia (by have := AT hk; omega)]
  exact hs.blk _ _ (hget k x hk)
 ·intro k β hk hβ
  have h1 := hlk k hk
  exact (hs.at_ok _ _ β h1.1 h1.2 ((hGc k β hk).1 hβ)).2
 ·intro k l β hk hl' hβ hβ'
  have h1 := hlk k hk
  have h2 := hlk l hl'
  have := hs.at_inj _ _ _ _ β h1.1 h2.1 h1.2 h2.2 ((hGc k β hk).1 hβ) ((hGc l β hl').1 hβ')
  exact Sf hln (by omega) (by omega) this
 ·have h1 := congrArg uB hds
  simp at h1
  simp; omega
 ·intro j d hj
  have hj2 : (ds.map (D.ren (nu ls ns)))[j]? = some (d.ren (nu ls ns)) := by rw [zH, hj]; rfl
  rw [← hds, zH] at hj2
  obtain ⟨d0, hj0, hd0⟩ : ∃ d0, ds0[j]? = some d0 ∧ d0.nrm = d.ren (nu ls ns) := by
   cases hx0 : ds0[j]? with
   | none => rw [hx0] at hj2; cases hj2
   | some d0 => rw [hx0] at hj2; exact ⟨d0, rfl, by simpa using hj2⟩
  have hlt := AT hj0
  have hxj : xs[j]? = some (xs[j]'(by omega)) := by simp [show j < xs.length from by omega]
  have hop' := Kr hl hx j _ d0 hxj hj0
  have hcell : AC (xs.toArray.map a.eval) j = a.eval (xs[j]'(by omega)) := by simp [AC, show j < xs.length from by omega]
  rw [hcell]
  refine KR (f := nu ls ns) ?_
  rw [← hd0]
  exact (hs.opd hop').nrm
 ·rintro e w' ⟨v, G', rfl, hbel, hS1, hS2, hres', hpost, hvec, hsame, hlS, hvat, hvinj⟩
  show K (a.put o.dst v) w'
  rw [hd]
  let G2 : Gh := { S := G'.S, loc := fun c => if c ∈ ns then G'.loc (ns.idxOf c) else G.loc c, hd := fun c => if c ∈ ns then G'.hd (ns.idxOf c) else G.hd c, more := fun c => if c ∈ ns then G'.more (ns.idxOf c) else G.more c }
  have hidx : ∀ k, k < ns.length → ns.idxOf (nm ns k) = k := by
   intro k hk
   have hm := Gr hk
   have h1 : ns.idxOf (nm ns k) < ns.length := List.idxOf_lt_length_of_mem hm
   refine Sf hnd h1 hk ?_
   have h2 := List.getElem_idxOf h1
   show ns.getD (ns.idxOf (nm ns k)) 0 = nm ns k
   rw [lD, zQ h1, yP, h2]
  have hvia : G'.via G2 (nu ls ns) (fun b => JM lent.length rv.length b = true) := by
   have key : ∀ b, JM lent.length rv.length b = true → (∃ k, k < lent.length ∧ b = 90000 + k) ∨ (b < rv.length ∧ Cz b = false) := by
    intro b hb
    unfold JM at hb
    split at hb
    ·rename_i h
     obtain ⟨k, _, rfl⟩ := K5 h
     rw [uC] at hb
     exact .inl ⟨k, by omega, rfl⟩
    ·rename_i h
     rw [uC] at hb
     exact .inr ⟨hb, by simpa using h⟩
   refine ⟨fun β h => h, fun b hb => ?_, fun b hb => ?_, fun b hb => ?_⟩
   ·rcases key b hb with ⟨k, hk, rfl⟩ | ⟨hb1, hb2⟩
    ·rw [Ia (by omega)]
     have hni : nm ls k ∉ ns := hlsns _ (Gr (by omega))
     simp only [G2]; rw [if_neg hni, (hsame k hk).1]; simp only [Gc]; rw [Ia (by omega)]
    ·rw [OA (by omega)]
     simp only [G2]; rw [if_pos (Gr (by omega)), hidx b (by omega)]
   ·rcases key b hb with ⟨k, hk, rfl⟩ | ⟨hb1, hb2⟩
    ·rw [Ia (by omega)]
     have hni : nm ls k ∉ ns := hlsns _ (Gr (by omega))
     simp only [G2]; rw [if_neg hni, (hsame k hk).2.1]; simp only [Gc]; rw [Ia (by omega)]
    ·rw [OA (by omega)]
     simp only [G2]; rw [if_pos (Gr (by omega)), hidx b (by omega)]
   ·rcases key b hb with ⟨k, hk, rfl⟩ | ⟨hb1, hb2⟩
    ·rw [Ia (by omega)]
     have hni : nm ls k ∉ ns := hlsns _ (Gr (by omega))
     simp only [G2]; rw [if_neg hni, (hsame k hk).2.2]; simp only [Gc]; rw [Ia (by omega)]
    ·rw [OA (by omega)]
     simp only [G2]; rw [if_pos (Gr (by omega)), hidx b (by omega)]
  have hext : G.ext G2 (fun b => (st.bx b).isSome = true) := by
   have : ∀ b, (st.bx b).isSome = true → b ∉ ns := fun b hb hm => by rw [hnew' b hm] at hb; cases hb
   exact ⟨fun β h => hS1 β h, fun b hb => by simp only [G2]; rw [if_neg (this b hb)], fun b hb => by simp only [G2]; rw [if_neg (this b hb)], fun b hb => by simp only [G2]; rw [if_neg (this b hb)]⟩
  have hnotL : ∀ β, Vn Gc lent.length β → ∃ k, k < lent.length ∧ G.has (nm ls k) β := fun β ⟨k, hk, hb⟩ => ⟨k, hk, (hGc k β hk).1 hb⟩
  have hwS : ∀ β, G.S β → w'.heap[β]? = w.heap[β]? := fun β hβ => hbel.block β (hs.S_lt β hβ) fun h => by
   obtain ⟨k, hk, hg⟩ := hnotL β h
   exact (hs.at_ok _ _ β (hlk k hk).1 (hlk k hk).2 hg).2.2 hβ
  have hsz := hbel.size
  have hle := hs.below.size
  have hng := fun c => Pw (f := nu ls ns) (bx := st.bx) (ns := ns) (rv := rv) (c := c) hns hnd
  have hbg := Rz (f := nu ls ns) (bx := st.bx) (r := newB (nu ls ns) ns rv) (ls := ls) (lent := lent) (ch := ch) hll hln hch (fun c hc => (hng c).1 (hlsns c hc)) hlb
  have hblk : ∀ c k, Cw st.bx (Jz (nu ls ns) ls lent ch (newB (nu ls ns) ns rv)) c = some k →
    (c ∉ ns ∧ c ∉ ls ∧ st.bx c = some k) ∨ (∃ m x, m < ns.length ∧ nm ns m = c ∧ rv[m]? = some x ∧ k = x.ren (nu ls ns)) ∨ (∃ m x, m < ls.length ∧ nm ls m = c ∧ lent[m]? = some x ∧ k = x.2.ren (nu ls ns)) := by
   intro c k hc
   by_cases hm : c ∈ ls
   ·obtain ⟨m, hm1, hm2⟩ := PE hm
    have hlx : lent[m]? = some (lent[m]'(by omega)) := by simp [show m < lent.length from by omega]
    have := hbg.2 m _ hlx
    rw [hm2, hc] at this
    exact .inr (.inr ⟨m, _, hm1, hm2, hlx, by simpa using this⟩)
   ·rw [hbg.1 c hm] at hc
    by_cases hm2 : c ∈ ns
    ·obtain ⟨m, hm1, hm3⟩ := PE hm2
     have hrx : rv[m]? = some (rv[m]'(by omega)) := by simp [show m < rv.length from by omega]
     have := (hng c).2 m _ hrx
     rw [hm3, hc] at this
     exact .inr (.inl ⟨m, _, hm1, hm3, hrx, by simpa using this⟩)
    ·rw [(hng c).1 hm2] at hc; exact .inl ⟨hm2, hm, hc⟩
  have hdom : ∀ b, JM lent.length rv.length b = true → (Cw st.bx (Jz (nu ls ns) ls lent ch (newB (nu ls ns) ns rv)) (nu ls ns b)).isSome = true := by
   intro b hb
   unfold JM at hb
   split at hb
   ·rename_i h
    obtain ⟨k, _, rfl⟩ := K5 h
    rw [uC] at hb
    have hk : k < lent.length := by omega
    rw [Ia (by omega), hbg.2 k _ (show lent[k]? = some lent[k] by simp [hk])]; rfl
   ·rename_i h
    rw [uC] at hb
    have hni : nm ns b ∉ ls := fun hm => hlsns _ hm (Gr (by omega))
    rw [OA (by omega), hbg.1 _ hni, (hng (nm ns b)).2 b _ (show rv[b]? = some rv[b] by simp [hb])]; rfl
  have hren : ∀ l : List Nat, IG lent.length rv.length l = true → ∀ b, b ∈ l → JM lent.length rv.length b = true := fun l h b hb => zD.1 h b hb
  have hrenB : ∀ (k : B8) b, b ∈ (k.ren (nu ls ns)).names → ∃ b0, b0 ∈ k.names ∧ b = nu ls ns b0 := by
   intro k b hb
   cases k with
   | box cs =>
    obtain ⟨c, hc, hb⟩ := BE.1 hb
    obtain ⟨c0, h0, rfl⟩ := zS.1 hc
    obtain ⟨b0, h1, h2⟩ := L9 hb
    exact ⟨b0, BE.2 ⟨c0, h0, h1⟩, h2⟩
   | vec e rows => cases hb
   | mp es => cases hb
   | dvec e cols rs => cases hb
   | pvec n e cols rs => cases hb
   | hol e cols i0 k0 c rs => exact ⟨c, by simp [B8.names], by simpa [B8.ren, B8.names] using hb⟩
   | gone => cases hb
  have hhasN : ∀ m β, m < ns.length → (G2.has (nm ns m) β ↔ G'.has m β) := fun m β hm => by
   have hmd : JM lent.length rv.length m = true := by
    unfold JM; rw [KD (show m < 90000 by omega) (yD _), if_neg (by simp), uC]; omega
   have := hvia.has (β := β) hmd
   rwa [OA (by omega)] at this
  have key : DQ P X G2 ⟨st.env, Cw st.bx (Jz (nu ls ns) ls lent ch (newB (nu ls ns) ns rv))⟩ a w' := by
   refine hs.frame (fun c hc => QD hc) hext hwS ?_ ?_ ?_ ?_ ?_ ?_ (fun b hb => by
    have : b ∉ ns := fun hm => by rw [hndl.2 b hm] at hb; cases hb
    simp only [G2]; rw [if_neg this, if_neg this, if_neg this]; exact ⟨rfl, rfl, rfl⟩)
   ·intro c k hc
    rcases hblk c k hc with ⟨_, h0, h1⟩ | ⟨m, x, h1, h2, h3, h4⟩ | ⟨m, x, h1, h2, h3, h4⟩
    ·refine .inl ⟨h1, fun β hr hβ => hbel.block β (hs.at_ok c k β h1 hr hβ).2.1 fun hL => ?_⟩
     obtain ⟨j, hj, hg⟩ := hnotL β hL
     exact h0 ((hs.at_inj _ _ _ _ β h1 (hlk j hj).1 hr (hlk j hj).2 hβ hg) ▸ Gr (by omega))
    ·subst h4
     have hmd : JM lent.length rv.length m = true := by
      unfold JM; rw [KD (show m < 90000 by omega) (yD _), if_neg (by simp), uC]; omega
     have hxn := hren _ (zD.1 hnmV x (lM h3))
     refine .inr ⟨?_, fun c' hc' => ?_⟩
     ·have := (hvec m x h3).ren hvia hmd hxn
      rwa [OA (by omega), h2] at this
     ·obtain ⟨b0, hb0, rfl⟩ := hrenB x c' hc'
      exact hdom b0 (hxn b0 hb0)
    ·subst h4
     have hmd : JM lent.length rv.length (90000 + m) = true := by
      unfold JM; rw [JS (by omega), if_pos rfl, uC]; omega
     have hxn := hren _ (zD.1 hnmL x (lM h3))
     refine .inr ⟨?_, fun c' hc' => ?_⟩
     ·have := (hpost m x h3).ren hvia hmd hxn
      rwa [Ia (by omega), h2] at this
     ·obtain ⟨b0, hb0, rfl⟩ := hrenB x.2 c' hc'
      exact hdom b0 (hxn b0 hb0)
   ·intro c k β hc hr hβ
    rcases hblk c k hc with ⟨h0, _, h1⟩ | ⟨m, x, h1, h2, h3, h4⟩ | ⟨m, x, h1, h2, h3, h4⟩
    ·have hβ := (hext.has (by rw [h1]; rfl)).1 hβ
     have := hs.at_ok c k β h1 hr hβ
     refine ⟨this.1, by omega, fun h => ?_⟩
     rcases hS2 β h with h | h
     ·exact this.2.2 h
     ·omega
    ·rw [← h2, hhasN m β h1] at hβ
     have := hvat m β (by omega) hβ
     exact ⟨.new (by omega), this.2.1, this.2.2⟩
    ·subst h2
     have h5 := hlk m (by omega)
     have hβ := (hext.has (by rw [h5.1]; rfl)).1 hβ
     have := hs.at_ok _ _ β h5.1 h5.2 hβ
     refine ⟨this.1, by omega, hlS m β (by omega) ?_⟩
     have h6 := hsame m (by omega)
     unfold Gh.has at hβ ⊢
     rw [h6.1, h6.2.2]
     simp only [Gc]; rw [Ia (by omega)]; exact hβ
   ·intro c c' k k' β hc hc' hr hr' hβ hβ'
    have old : ∀ c k, Cw st.bx (Jz (nu ls ns) ls lent ch (newB (nu ls ns) ns rv)) c = some k → k.real = true → G2.has c β → (∃ k0, st.bx c = some k0 ∧ k0.real = true ∧ G.has c β) ∨ ∃ m, m < ns.length ∧ nm ns m = c ∧ G'.has m β := by
     intro c k hc hr hβ
     rcases hblk c k hc with ⟨h0, _, h1⟩ | ⟨m, x, h1, h2, h3, h4⟩ | ⟨m, x, h1, h2, h3, h4⟩
     ·exact .inl ⟨k, h1, hr, (hext.has (by rw [h1]; rfl)).1 hβ⟩
     ·rw [← h2, hhasN m β h1] at hβ
      exact .inr ⟨m, h1, h2, hβ⟩
     ·subst h2
      have h5 := hlk m (by omega)
      exact .inl ⟨_, h5.1, h5.2, (hext.has (by rw [h5.1]; rfl)).1 hβ⟩
    rcases old c k hc hr hβ with ⟨k0, h1, h2, h3⟩ | ⟨m, h1, h2, h3⟩ <;> rcases old c' k' hc' hr' hβ' with ⟨k0', h1', h2', h3'⟩ | ⟨m', h1', h2', h3'⟩
    ·exact hs.at_inj c c' k0 k0' β h1 h1' h2 h2' h3 h3'
    ·have h5 := hvat m' β (by omega) h3'
     have h6 := (hs.at_ok c k0 β h1 h2 h3).2.1
     omega
    ·have h5 := hvat m β (by omega) h3
     have h6 := (hs.at_ok c' k0' β h1' h2' h3').2.1
     omega
    ·have := hvinj m m' β (by omega) (by omega) h3 h3'
     rw [← h2, ← h2', this]
   ·intro β h
    rcases hS2 β h with h | h
    ·have := hs.S_lt β h; omega
    ·exact h.2
   ·intro β h
    rcases hS2 β h with h | h
    ·exact hs.S_src β h
    ·exact .inr (by omega)
   ·refine hs.below.trans ⟨hbel.os, hbel.tape, hbel.output, hbel.size, hbel.drawn, fun k hk hnl => hbel.block k (by omega) fun hL => ?_⟩
    obtain ⟨j, hj, hg⟩ := hnotL k hL
    rcases (hs.at_ok _ _ k (hlk j hj).1 (hlk j hj).2 hg).1.2 with h | h
    ·omega
    ·exact hnl h
  refine hK _ _ ⟨G2, key.put (some s) (some (res.ren (nu ls ns))) v (by intro t e; cases e; exact hn) ?_⟩
  rintro d ⟨⟩
  refine ⟨hres'.ren hvia (hren _ hnmR), fun b hb => ?_⟩
  obtain ⟨b0, h1, h2⟩ := Ly hb
  rw [h2]
  exact hdom b0 (hren _ hnmR b0 h1)
theorem HC {f s : Nat} {xs : List Operand} {ds0 ds : List D} {lent : List (B8 × B8)} {rv : List B8} {res : D} {ts : Array TypeId} (ls ns : List Nat) (ch : List Bool) (hc : E8 P f ds lent rv res) (hat : At st.env ops i X.n (.call ⟨.value (.func f), xs.toArray, ts⟩) s gs)
  (hf : AE P f = true) (hl : xs.length = ds0.length) (hx : FB st.env (IB xs ds0)) (hds : ds0.map D.nrm = ds.map (D.ren (nu ls ns)))
  (hll : ls.length = lent.length) (hln : ls.Nodup) (hlb : Iy st.bx (Qd (nu ls ns) ls lent)) (hns : ns.length = rv.length) (hndl : LD ns) (hnew : On st.bx ns) (hch : Vi lent ch)
  (hlim : (xQ lent.length 1000 && xQ rv.length 1000) = true) (hre : (lent.all fun x => x.1.real && x.2.real) = true)
  (hnm : (IG lent.length rv.length res.names && (lent.all fun x => IG lent.length rv.length x.2.names) && rv.all fun x => IG lent.length rv.length x.names) = true)
  (next : By P X ops dr Q r (i + 1) (C6.upd ⟨gs ++ IB xs ds0, Qd (nu ls ns) ls lent, some s, some (res.ren (nu ls ns)), Jz (nu ls ns) ls lent ch (newB (nu ls ns) ns rv), ns⟩ st) ((i, ⟨gs ++ IB xs ds0, Qd (nu ls ns) ls lent, some s, some (res.ren (nu ls ns)), Jz (nu ls ns) ls lent ch (newB (nu ls ns) ns rv), ns⟩) :: log)) : By P X ops dr Q (r + 1) i st log := by
 obtain ⟨o, ho, hop, hd, hn, hg, hgp⟩ := hat.out
 exact By.step next ⟨Ar.2 ⟨hgp, hx⟩, hlb, hnew⟩ (Xm ls ns ch hc hat hf hl hds hll hln hns hndl hch hlim hre hnm)
end run
end Go.Lift
namespace Go.Lift
open Go.RowKit
variable {P : Program} {X : IT} {ops : Array Oper}
def Sq {α : Type} (xs : List α) (q : Nat) (ys : List α) : List α := xs.take q ++ ys ++ xs.drop (q + ys.length)
theorem P4 {α : Type} {xs ys : List α} {q : Nat} (h : q + ys.length ≤ xs.length) : (Sq xs q ys).length = xs.length := by
 unfold Sq; simp; omega
theorem VE {α : Type} {xs ys : List α} {q : Nat} (h : q + ys.length ≤ xs.length) (i : Nat) : (Sq xs q ys)[i]? = if q ≤ i ∧ i < q + ys.length then ys[i - q]? else xs[i]? := by
 unfold Sq
 by_cases h1 : i < q
 ·rw [if_neg (by omega), xG, yC (by simp; omega), yB h1]
 ·by_cases h2 : i < q + ys.length
  ·rw [if_pos (by omega), yC (by simp; omega), yJ (by simp; omega)]
   congr 1; simp; omega
  ·rw [if_neg (by omega), yJ (by simp; omega), xA]
   congr 1; simp; omega
theorem Zu {α β : Type} (f : α → β) (xs ys : List α) (q : Nat) : Sq (xs.map f) q (ys.map f) = (Sq xs q ys).map f := by
 unfold Sq; simp
inductive Q8 : D → Nat → Nat → List (List T) → Nat → Nat → Prop where
 | own (b e : Nat) (rows : List (List T)) : Q8 (.e (.one (.own b))) b e rows 0 rows.length
 | view (b e : Nat) (rows : List (List T)) (lo len : Nat) (h : lo + len ≤ rows.length) : Q8 (.e (.one (.view b e lo len))) b e rows lo len
inductive TH : D → List (Nat × B8) → Nat → List (List T) → Prop where
 | of {d : D} {rb : List (Nat × B8)} {e : Nat} {rows : List (List T)} (h : bR d rb e rows) : TH d rb e rows
 | view (b e : Nat) (rows : List (List T)) (lo len : Nat) (h : lo + len ≤ rows.length) : TH (.e (.one (.view b e lo len))) [(b, .vec e rows)] e ((rows.drop lo).take len)
theorem WJ (q : Addr) : q.add 0 = q := by unfold Addr.add; simp
theorem Uu {G : Gh} {w : World} {b e : Nat} {rows : List (List T)} (h : FZ P w G b (.vec e rows)) : ∃ a cap, G.hd b = .slice a rows.length cap ∧ rows.length ≤ cap ∧
  (0 < cap → ∃ β arr el, a = some ⟨β, 0, none⟩ ∧ G.loc b = some β ∧ w.heap[β]? = some (.cells arr el (0, 0)) ∧ arr.size = cap * e ∧ Fg w G.S arr e 0 rows) := by
 rcases h with ⟨a, h1, h2, _⟩ | ⟨β, cap, arr, el, h0, h1, h2, h3, h4, h5, h6⟩
 ·subst h2; exact ⟨a, 0, h1, yD _, fun h => by cases h⟩
 ·exact ⟨_, cap, h1, h3, fun _ => ⟨β, arr, el, rfl, h0, h2, h4, by rw [h4, zI]; exact zG e h3, h5, fun i row j t hi hj => by rw [zI]; exact h6 i row j t hi hj⟩⟩
section run
variable {dr : Bool} {Q : St → Prop} {r i : Nat} {st : St} {log : List (Nat × C6)} {o : Oper} {gs : List (Operand × D)}
theorem DQ.dstV {G : Gh} {a : Act} {w : World} (hs : DQ P X G st a w) {x : Operand} {d : D} {b e lo len : Nat} {rows : List (List T)} (hx : Lift.opd st.env x = some d) (h : Q8 d b e rows lo len) (hb : st.bx b = some (.vec e rows)) :
  ∃ p cap', a.eval x = .slice p len cap' ∧ rows.length - lo ≤ cap' ∧ lo + len ≤ rows.length ∧
   (lo < rows.length → ∃ β cap arr el, G.loc b = some β ∧ G.hd b = .slice (some ⟨β, 0, none⟩) rows.length cap ∧ rows.length ≤ cap ∧ p = some ⟨β, lo * e, none⟩ ∧ w.heap[β]? = some (.cells arr el (0, 0)) ∧ arr.size = cap * e ∧ Fg w G.S arr e 0 rows) := by
 obtain ⟨a0, cap, h1, h2, h3⟩ := Uu (hs.blk b _ hb)
 have hR := hs.opd hx
 cases h with
 | own =>
  obtain ⟨hR, _⟩ : FU P w G (a.eval x) (.own b) := hR
  refine ⟨a0, cap, hR.trans h1, by omega, by omega, fun hlt => ?_⟩
  obtain ⟨β, arr, el, g1, g2, g3, g4, g5⟩ := h3 (by omega)
  subst g1
  exact ⟨β, cap, arr, el, g2, h1, h2, by simp, g3, g4, g5⟩
 | view _ _ _ _ _ h =>
  obtain ⟨a1, n1, cap1, p, k1, k2, k3, k4⟩ : FU P w G (a.eval x) (.view b e lo len) := hR
  rw [h1] at k1
  cases k1
  refine ⟨p, cap - lo, k3, by omega, h, fun hlt => ?_⟩
  obtain ⟨β, arr, el, g1, g2, g3, g4, g5⟩ := h3 (by omega)
  subst g1
  refine ⟨β, cap, arr, el, g2, h1, h2, ?_, g3, g4, g5⟩
  rw [k4 (by omega)]
  simp [Addr.add_mk]
theorem DQ.srcW {G : Gh} {a : Act} {w : World} (hs : DQ P X G st a w) {x : Operand} {d : D} {rb : List (Nat × B8)} {e : Nat} {rows : List (List T)} (hx : Lift.opd st.env x = some d) (h : TH d rb e rows) (hb : Iy st.bx rb) :
  ∃ p cap, a.eval x = .slice p rows.length cap ∧ (rows = [] ∨ ∃ β off arr el fz, p = some ⟨β, off, none⟩ ∧ w.heap[β]? = some (.cells arr el fz) ∧ Fg w G.S arr e off rows) := by
 cases h with
 | of h =>
  have hR := hs.opd hx
  cases h with
  | own b e rows =>
   obtain ⟨hR, _⟩ : FU P w G (a.eval x) (.own b) := hR
   obtain ⟨a0, cap, h1, h2, h3⟩ := Uu (hs.blk b _ hb.1)
   refine ⟨a0, cap, hR.trans h1, ?_⟩
   cases rows with
   | nil => exact .inl rfl
   | cons y ys =>
    obtain ⟨β, arr, el, g1, g2, g3, g4, g5⟩ := h3 (by simp at h2; omega)
    exact .inr ⟨β, 0, arr, el, (0, 0), g1, g3, g5⟩
  | sl e rows hrow =>
   have hR : DJ w G.S (a.eval x) (.sl rows) := hR
   generalize a.eval x = v at hR
   cases hR with
   | nil a' cap => exact ⟨_, _, rfl, .inl rfl⟩
   | sl β off cap e' arr el' fz rows h1 h2 h3 h4 h5 h6 =>
    refine ⟨_, _, rfl, ?_⟩
    cases rows with
    | nil => exact .inl rfl
    | cons r0 rs =>
     have he : e' = e := by rw [← hrow 0 r0 rfl]; exact (h5 0 r0 rfl).symm
     subst he
     exact .inr ⟨β, off, arr, el', fz, rfl, h2, h4, h5, h6⟩
  | nil e =>
   have hR : DJ w G.S (a.eval x) .nil0 := hR
   generalize a.eval x = v at hR
   cases hR with
   | nil0 a' => exact ⟨_, _, rfl, .inl rfl⟩
 | view b _ rows lo len h =>
  obtain ⟨p, cap', h1, h2, h3, h4⟩ := hs.dstV hx (.view b e rows lo len h) hb.1
  have hlen : ((rows.drop lo).take len).length = len := by simp; omega
  refine ⟨p, cap', by rw [hlen]; exact h1, ?_⟩
  by_cases hz : len = 0
  ·exact .inl (by rw [hz, List.take_zero])
  ·obtain ⟨β, cap, arr, el, g1, g2, g3, g4, g5, g6, g7⟩ := h4 (by omega)
   refine .inr ⟨β, lo * e, arr, el, (0, 0), g4, g5, ?_, ?_, ?_⟩
   ·rw [hlen, g6, ← y8]; exact zG e (by omega)
   ·intro i row hi
    have := AT hi
    rw [hlen] at this
    rw [yB this, xA] at hi
    exact g7.2.1 _ row hi
   ·intro i row j t hi hj
    have := AT hi
    rw [hlen] at this
    rw [yB this, xA] at hi
    have := g7.2.2 _ row j t hi hj
    rwa [zI, y8] at this
theorem Fg.take {w : World} {S : Nat → Prop} {arr : Array Value} {e off n : Nat} {rows : List (List T)} (h : Fg w S arr e off rows) : Fg w S arr e off (rows.take n) := by
 refine ⟨?_, ?_, ?_⟩
 ·have := h.1
  have h2 : (rows.take n).length * e ≤ rows.length * e := zG e (by simp; omega)
  omega
 ·intro i row hi
  have := AT hi
  simp at this
  rw [yB (by omega)] at hi
  exact h.2.1 i row hi
 ·intro i row j t hi hj
  have := AT hi
  simp at this
  rw [yB (by omega)] at hi
  exact h.2.2 i row j t hi hj
theorem Sl {w : World} {S : Nat → Prop} {p : Option Addr} {len cap e n : Nat} {rows : List (List T)} (hn : n ≤ rows.length) (h : rows = [] ∨ ∃ β off arr el fz, p = some ⟨β, off, none⟩ ∧ w.heap[β]? = some (.cells arr el fz) ∧ Fg w S arr e off rows) :
  ∃ news, (Builtin.firstCells e n (.slice p len cap)).run P w = .ok news w ∧ Fg w S news e 0 (rows.take n) ∧ news.size = n * e := by
 rcases h with h | ⟨β, off, arr, el, fz, h1, h2, h3⟩
 ·subst h
  have : n = 0 := by simpa using hn
  subst this
  obtain ⟨news, k1, k2, k3⟩ := Gz (P := P) (w := w) (a := p) (len := len) (cap := cap) (e := e) (S := S)
  exact ⟨news, k1 w rfl, by simpa using k2, by simpa using k3⟩
 ·subst h1
  have hl : (rows.take n).length = n := by simp; omega
  obtain ⟨news, k1, k2, k3⟩ := If (P := P) (len := len) (cap := cap) h2 (h3.take (n := n))
  rw [hl] at k1 k3
  exact ⟨news, k1 w rfl, k2, k3⟩
theorem Yh {G : Gh} {w : World} {b e β cap q : Nat} {rows rows2 : List (List T)} {arr news : Array Value} {el : TypeId} (hlt : β < w.heap.size) (hnS : ¬ G.S β) (h0 : G.loc b = some β) (h1 : G.hd b = .slice (some ⟨β, 0, none⟩) rows.length cap) (h3 : rows.length ≤ cap) (h4 : arr.size = cap * e) (h5 : Fg w G.S arr e 0 rows)
  (hn : Fg w G.S news e 0 rows2) (hns : news.size = rows2.length * e) (hq : q + rows2.length ≤ rows.length) :
  FZ P (HV w β (.cells (GS arr (q * e) news.toList) el (0, 0))) G b (.vec e (Sq rows q rows2)) := by
 have hle : q * e + rows2.length * e ≤ cap * e := by rw [← y8]; exact zG e (by omega)
 have hS : ∀ γ, G.S γ → (HV w β (.cells (GS arr (q * e) news.toList) el (0, 0))).heap[γ]? = w.heap[γ]? := fun γ hγ => by
  rw [Fr, if_neg (fun (h : γ = β ∧ β < w.heap.size) => hnS (h.1 ▸ hγ))]
 have hrl : ∀ (i : Nat) (row : List T), (Sq rows q rows2)[i]? = some row → row.length = e := by
  intro i row hi
  rw [VE hq] at hi
  split at hi
  ·exact hn.2.1 _ row hi
  ·exact h5.2.1 _ row hi
 refine .inr ⟨β, cap, GS arr (q * e) news.toList, el, h0, by rw [P4 hq]; exact h1, by rw [Fr, if_pos ⟨rfl, hlt⟩], by rw [P4 hq]; exact h3, by rw [IA, h4], hrl, ?_⟩
 intro i row j t hi hj
 have hj' := AT hj
 have hre := hrl i row hi
 rw [VE hq] at hi
 rw [GY _ _ _ _ (by simp; omega)]
 simp only [uK, hns]
 split at hi
 ·rename_i hin
  have hle2 : (i - q) * e + e ≤ rows2.length * e := by rw [← yQ]; exact zG e (by omega)
  have hsp : i * e = q * e + (i - q) * e := by rw [← y8]; congr 1; omega
  rw [if_pos (by omega)]
  have := hn.2.2 _ row j t hi hj
  rw [zI] at this
  have h6 : (news.toList[i * e + j - q * e]?).getD undef = AC news ((i - q) * e + j) := by
   rw [show i * e + j - q * e = (i - q) * e + j from by omega]
   unfold AC; simp
  rw [h6]
  exact this.mono hS fun _ h => h
 ·rename_i hin
  rw [if_neg]
  ·have := h5.2.2 _ row j t hi hj
   rw [zI] at this
   exact this.mono hS fun _ h => h
  ·rintro ⟨k1, k2⟩
   by_cases hiq : i < q
   ·have : i * e + e ≤ q * e := by rw [← yQ]; exact zG e hiq
    omega
   ·have : q * e + rows2.length * e ≤ i * e := by rw [← y8]; exact zG e (by omega)
    omega
theorem Xo {x : Operand} {t el s e l h b lo0 len : Nat} {lo hi : Option Operand} {rl rh : List (Operand × D)} {rows : List (List T)} {d : D} (hat : At st.env ops i X.n (.slice t x lo hi none) s gs)
  (hx : opd st.env x = some d) (hD : Q8 d b e rows lo0 len) (hb : st.bx b = some (.vec e rows)) (ht : sliceB P t el = true) (he : Hn P el e = true) (hlo : Um lo 0 l rl) (hhi : Um hi len h rh) (h1 : FB st.env rl) (h2 : FB st.env rh) (hlh : l ≤ h) (hhl : lo0 + h ≤ rows.length)
  (next : By P X ops dr Q r (i + 1) (C6.upd ⟨gs ++ ((x, d) :: (rl ++ rh)), [(b, .vec e rows)], some s, some (.e (.one (.view b e (lo0 + l) (h - l)))), [], []⟩ st) ((i, ⟨gs ++ ((x, d) :: (rl ++ rh)), [(b, .vec e rows)], some s, some (.e (.one (.view b e (lo0 + l) (h - l)))), [], []⟩) :: log)) : By P X ops dr Q (r + 1) i st log := by
 obtain ⟨o, ho, hop, hd, hn, hg, hgp⟩ := hat.out
 refine By.step next ⟨Ar.2 ⟨hgp, hx, Ar.2 ⟨h1, h2⟩⟩, ⟨hb, trivial⟩, trivial⟩ (LR.value ho hg rfl hd.symm (DU hd hn) ?_)
 intro G st a w hs hpre
 obtain ⟨hx, h12⟩ := (Ar.1 hpre.r).2
 obtain ⟨h1, h2⟩ := Ar.1 h12
 have hb := hpre.b.1
 -- the header of the whole
 obtain ⟨a0, cap, k1, k2, k3⟩ := Uu (hs.blk b _ hb)
 have hv : ∃ p, a.eval x = .slice p len (cap - lo0) ∧ lo0 + len ≤ rows.length ∧ (lo0 < cap → p = a0.map fun q => q.add (lo0 * e)) := by
  have hR := hs.opd hx
  cases hD with
  | own =>
   obtain ⟨hR, _⟩ : FU P w G (a.eval x) (.own b) := hR
   exact ⟨a0, hR.trans k1, by omega, fun _ => by cases a0 <;> simp [WJ]⟩
  | view _ _ _ _ _ h' =>
   obtain ⟨a1, n1, cap1, p, g1, g2, g3, g4⟩ : FU P w G (a.eval x) (.view b e lo0 len) := hR
   rw [k1] at g1; cases g1
   exact ⟨p, g3, h', g4⟩
 obtain ⟨p, hv1, hv2, hv3⟩ := hv
 refine ⟨.slice (if cap - lo0 = l then p else p.map (·.add (l * e))) (h - l) (cap - lo0 - l), w, G, ?_, hs, ?_⟩
 ·simp only [execOp, hop]
  refine Am (a := .slice (if cap - lo0 = l then p else p.map (·.add (l * e))) (h - l) (cap - lo0 - l)) (w1 := w) ?_ rfl
  rw [hv1]
  exact LS (a := a) hs ht he hlo hhi h1 h2 hlh (by omega)
 ·rintro d' ⟨⟩
  refine ⟨⟨a0, rows.length, cap, _, k1, by omega, by rw [show cap - lo0 - l = cap - (lo0 + l) from by omega], fun hlt => ?_⟩, fun b' hb' => ?_⟩
  ·rw [if_neg (by omega), hv3 (by omega)]
   obtain ⟨β, arr, el', g1, _⟩ := k3 (by omega)
   subst g1
   simp only [yT, Addr.add_mk, y8, zI]
  ·simp [D.names, E.names, C.names] at hb'
   subst hb'
   simp [Cw, hb]
theorem YM {t t2 el e : Nat} {w : World} {p p2 : Option Addr} {dl dc n2 c2 : Nat} {news : Array Value} {ty : TypeId} (ht : sliceB P t el = true) (he : Hn P el e = true) (hnew : (Builtin.firstCells e (y7 n2 dl) (.slice p2 n2 c2)).run P w = .ok news w) {w' : World}
  (hst : ∀ q, p = some q → (storeCells q news.toList).run P w = .ok () w') (hno : p = none → w' = w) : (Builtin.copy_ #[t, t2] ty #[.slice p dl dc, .slice p2 n2 c2]).run P w = .ok (goInt (y7 n2 dl)) w' := by
 unfold sliceB at ht
 split at ht
 ·rename_i e' hu
  have : e' = el := by simpa using ht
  subst this
  unfold Builtin.copy_
  refine Am (AW hu w) ?_
  refine Am (a := n2) (w1 := w) rfl ?_
  refine Am (Fv he w) ?_
  refine Am hnew ?_
  cases p with
  | none => rw [hno rfl]; rfl
  | some q => exact Am (hst q rfl) rfl
 ·cases ht
theorem bI {x y : Operand} {t t2 el s e b lo len : Nat} {d d2 : D} {rb2 : List (Nat × B8)} {rows rows2 rows' : List (List T)} (hat : At st.env ops i X.n (.call ⟨.builtin .copy, #[x, y], #[t, t2]⟩) s gs)
  (hx : opd st.env x = some d) (hD : Q8 d b e rows lo len) (hb : st.bx b = some (.vec e rows)) (hy : opd st.env y = some d2) (hS : TH d2 rb2 e rows2) (hb2 : Iy st.bx rb2) (ht : sliceB P t el = true) (he : Hn P el e = true) (hr : Sq rows lo (rows2.take (y7 rows2.length len)) = rows')
  (next : By P X ops dr Q r (i + 1) (C6.upd ⟨gs ++ [(x, d), (y, d2)], (b, .vec e rows) :: rb2, some s, some (vD (goInt (y7 rows2.length len))), [(b, .vec e rows')], []⟩ st) ((i, ⟨gs ++ [(x, d), (y, d2)], (b, .vec e rows) :: rb2, some s, some (vD (goInt (y7 rows2.length len))), [(b, .vec e rows')], []⟩) :: log)) : By P X ops dr Q (r + 1) i st log := by
 obtain ⟨o, ho, hop, hd, hn, hg, hgp⟩ := hat.out
 refine By.step next ⟨Ar.2 ⟨hgp, hx, hy, trivial⟩, ⟨hb, hb2⟩, trivial⟩ (LR.value ho hg rfl hd.symm (DU hd hn) ?_)
 intro G st a w hs hpre
 obtain ⟨hx, hy, _⟩ := (Ar.1 hpre.r).2
 obtain ⟨hb, hb2⟩ := hpre.b
 subst hr
 obtain ⟨p, cap', h1, h2, h3, h4⟩ := hs.dstV hx hD hb
 obtain ⟨p2, cap2, k1, k2⟩ := hs.srcW hy hS hb2
 have hmin : y7 rows2.length len ≤ rows2.length := Nat.min_le_left _ _
 have hmin2 : y7 rows2.length len ≤ len := Nat.min_le_right _ _
 obtain ⟨news, n1, n2, n3⟩ := Sl (P := P) (len := rows2.length) (cap := cap2) hmin k2
 have hl2 : (rows2.take (y7 rows2.length len)).length = y7 rows2.length len := by rw [List.length_take]; exact Nat.min_eq_left hmin
 have hrun : ∀ w', (∀ q, p = some q → (storeCells q news.toList).run P w = .ok () w') → (p = none → w' = w) → (execOp a.eval o).run P w = .ok (.value (goInt (y7 rows2.length len))) w' := fun w' g1 g2 => by
  simp only [execOp, hop]
  refine HR fun cs => ?_
  simp only [uG, yR, zB4, builtin, h1, k1]
  exact Am (YM ht he n1 g1 g2) rfl
 have fin : ∀ d', some (vD (goInt (y7 rows2.length len))) = some d' → ∀ w' (G' : Gh), Ii P w' G' (goInt (y7 rows2.length len)) d' ∧ ∀ c, c ∈ d'.names → (Cw st.bx [(b, .vec e (Sq rows lo (rows2.take (y7 rows2.length len))))] c).isSome = true := fun d' hd' w' G' => by
  cases hd'; exact ⟨.val _ rfl, fun c hc => by cases hc⟩
 by_cases hlt : lo < rows.length
 ·obtain ⟨β, cap, arr, el', g1, g2, g3, g4, g5, g6, g7⟩ := h4 hlt
  subst g4
  have hat := hs.at_ok b _ β hb rfl (.inl g1)
  have hle : lo * e + y7 rows2.length len * e ≤ arr.size := by rw [g6, ← y8]; exact zG e (by omega)
  have hst := H2 (P := P) (β := β) (el := el') news.toList w (lo * e) 0 arr g5 (by simp [n3]; omega) (Fg.ones n2 (by rw [n3, hl2]))
  rw [Nat.add_zero] at hst
  refine ⟨_, _, G, hrun _ (fun q hq => by cases hq; exact hst) (fun h => by cases h), ?_, fun d' hd' => fin d' hd' _ _⟩
  exact hs.setB (b := b) (k0 := .vec e rows) hb rfl rfl (.inl g1) (Yh hat.2.1 hat.2.2 g1 g2 g3 g6 g7 n2 (by rw [n3, hl2]) (by rw [hl2]; omega)) (fun c hc => by cases hc)
 ·have hz : y7 rows2.length len = 0 := by omega
  have hn0 : news.toList = [] := xC (by simp [n3, hz])
  have hsp : Sq rows lo (rows2.take (y7 rows2.length len)) = rows := by
   have : lo = rows.length := by omega
   rw [hz]; unfold Sq; simp [this]
  refine ⟨_, w, G, hrun w (fun q _ => by rw [hn0]; rfl) (fun _ => rfl), ?_, fun d' hd' => fin d' hd' _ _⟩
  have : (⟨st.env, Cw st.bx [(b, .vec e (Sq rows lo (rows2.take (y7 rows2.length len))))]⟩ : St) = st := by
   refine St.ext (fun _ => rfl) fun c => ?_
   simp only [Cw]
   split
   ·rename_i e1; rw [e1, hsp, hb]
   ·rfl
  rw [this]; exact hs
end run
end Go.Lift
namespace Go.Lift
open Go.RowKit
variable {P : Program} {X : IT} {ops : Array Oper}
def XM (a b : Int) : Int := if b < a then b else a
def Wk (a b : Int) : Int := if b > a then b else a
def ZQ (b : ByteArray) (i : Int) : Option Int := if 0 ≤ i then (b[i.toNat]?).map fun x => (x.toNat : Int) else none
theorem WA {β : Type} {b : ByteArray} {i : Int} {f : Int → Option β} {r : β} (h : (ZQ b i).bind f = some r) : ∃ x : UInt8, 0 ≤ i ∧ b[i.toNat]? = some x ∧ f (x.toNat : Int) = some r := by
 obtain ⟨x, h1, h2⟩ := bind_some h
 unfold ZQ at h1
 split at h1
 ·rename_i h0
  cases hx : b[i.toNat]? with
  | none => rw [hx] at h1; cases h1
  | some y => rw [hx] at h1; cases h1; exact ⟨y, h0, rfl, h2⟩
 ·cases h1
section run
variable {dr : Bool} {Q : St → Prop} {r i : Nat} {st : St} {log : List (Nat × C6)} {o : Oper} {gs : List (Operand × D)}
theorem dA {x y : Operand} {t t2 s : Nat} {k k2 : IntKind} {a0 b0 : Int} (hat : At st.env ops i X.n (.call ⟨.builtin .min, #[x, y], #[t, t2]⟩) s gs)
  (hx : opd st.env x = some (vD (.int k a0))) (hy : opd st.env y = some (vD (.int k2 b0)))
  (next : By P X ops dr Q r (i + 1) (C6.upd ⟨gs ++ [(x, vD (.int k a0)), (y, vD (.int k2 b0))], [], some s, some (vD (.int k (XM a0 b0))), [], []⟩ st) ((i, ⟨gs ++ [(x, vD (.int k a0)), (y, vD (.int k2 b0))], [], some s, some (vD (.int k (XM a0 b0))), [], []⟩) :: log)) : By P X ops dr Q (r + 1) i st log := by
 obtain ⟨o, ho, hop, hd, hn, hg, hgp⟩ := hat.out
 refine By.step next ⟨Ar.2 ⟨hgp, hx, hy, trivial⟩, trivial, trivial⟩ (LR.value ho hg rfl hd.symm (DU hd hn) ?_)
 intro G st a w hs hpre
 obtain ⟨hx, hy, _⟩ := (Ar.1 hpre.r).2
 have h1 : a.eval x = .int k a0 := DR (hs.opd hx : DJ w G.S (a.eval x) (.val _))
 have h2 : a.eval y = .int k2 b0 := DR (hs.opd hy : DJ w G.S (a.eval y) (.val _))
 refine ⟨.int k (XM a0 b0), w, G, ?_, hs, ?_⟩
 ·simp only [execOp, hop]
  refine HR fun cs => ?_
  simp only [uG, yR, zB4, builtin, h1, h2]
  rfl
 ·rintro d ⟨⟩
  exact ⟨.val _ rfl, fun b hb => by cases hb⟩
theorem en {x y : Operand} {t t2 s : Nat} {k k2 : IntKind} {a0 b0 : Int} (hat : At st.env ops i X.n (.call ⟨.builtin .max, #[x, y], #[t, t2]⟩) s gs)
  (hx : opd st.env x = some (vD (.int k a0))) (hy : opd st.env y = some (vD (.int k2 b0)))
  (next : By P X ops dr Q r (i + 1) (C6.upd ⟨gs ++ [(x, vD (.int k a0)), (y, vD (.int k2 b0))], [], some s, some (vD (.int k (Wk a0 b0))), [], []⟩ st) ((i, ⟨gs ++ [(x, vD (.int k a0)), (y, vD (.int k2 b0))], [], some s, some (vD (.int k (Wk a0 b0))), [], []⟩) :: log)) : By P X ops dr Q (r + 1) i st log := by
 obtain ⟨o, ho, hop, hd, hn, hg, hgp⟩ := hat.out
 refine By.step next ⟨Ar.2 ⟨hgp, hx, hy, trivial⟩, trivial, trivial⟩ (LR.value ho hg rfl hd.symm (DU hd hn) ?_)
 intro G st a w hs hpre
 obtain ⟨hx, hy, _⟩ := (Ar.1 hpre.r).2
 have h1 : a.eval x = .int k a0 := DR (hs.opd hx : DJ w G.S (a.eval x) (.val _))
 have h2 : a.eval y = .int k2 b0 := DR (hs.opd hy : DJ w G.S (a.eval y) (.val _))
 refine ⟨.int k (Wk a0 b0), w, G, ?_, hs, ?_⟩
 ·simp only [execOp, hop]
  refine HR fun cs => ?_
  simp only [uG, yR, zB4, builtin, h1, h2]
  rfl
 ·rintro d ⟨⟩
  exact ⟨.val _ rfl, fun b hb => by cases hb⟩
theorem Ux {x : Operand} {s b k : Nat} (hat : At st.env ops i X.n (.nilCheck x) s gs) (hx : opd st.env x = some (.e (.one (.ptr b k))))
  (next : By P X ops dr Q r (i + 1) (C6.upd ⟨gs ++ [(x, .e (.one (.ptr b k)))], [], some s, some (.e (.one (.ptr b k))), [], []⟩ st) ((i, ⟨gs ++ [(x, .e (.one (.ptr b k)))], [], some s, some (.e (.one (.ptr b k))), [], []⟩) :: log)) : By P X ops dr Q (r + 1) i st log := by
 obtain ⟨o, ho, hop, hd, hn, hg, hgp⟩ := hat.out
 refine By.step next ⟨Ar.2 ⟨hgp, hx, trivial⟩, trivial, trivial⟩ (LR.value ho hg rfl hd.symm (DU hd hn) ?_)
 intro G st a w hs hpre
 obtain ⟨hx, _⟩ := (Ar.1 hpre.r).2
 obtain ⟨β, hβ, hv⟩ : FU P w G (a.eval x) (.ptr b k) := hs.opd hx
 refine ⟨.pointer (some ⟨β, k, none⟩), w, G, ?_, hs, ?_⟩
 ·simp only [execOp, hop, hv]; rfl
 ·rintro d ⟨⟩
  exact ⟨⟨β, hβ, rfl⟩, fun b' hb' => hs.opd_live hx b' hb'⟩
theorem PA {x : Operand} {b e ix k n s : Nat} {rows : List (List T)} {row us : List T} {t : TypeId} (hat : At st.env ops i X.n (.load t x) s gs)
  (hx : opd st.env x = some (.e (.one (.eptr b e ix k)))) (ht : E4 P t true = true) (hz : Hn P t n = true) (hb : st.bx b = some (.vec e rows)) (hrow : rows[ix]? = some row) (hc : (row.drop k).take n = us) (hl : us.length = n) (hn0 : 0 < n)
  (next : By P X ops dr Q r (i + 1) (C6.upd ⟨gs ++ [(x, .e (.one (.eptr b e ix k)))], [(b, .vec e rows)], some s, some (.e (.agg (us.map C.pure))), [], []⟩ st) ((i, ⟨gs ++ [(x, .e (.one (.eptr b e ix k)))], [(b, .vec e rows)], some s, some (.e (.agg (us.map C.pure))), [], []⟩) :: log)) : By P X ops dr Q (r + 1) i st log := by
 obtain ⟨o, ho, hop, hd, hn, hg, hgp⟩ := hat.out
 refine By.step next ⟨Ar.2 ⟨hgp, hx, trivial⟩, ⟨hb, trivial⟩, trivial⟩ (LR.value ho hg rfl hd.symm (DU hd hn) ?_)
 intro G st a w hs hpre
 have hx := (Ar.1 hpre.r).2.1
 have hb := hpre.b.1
 obtain ⟨β, hβ, hv⟩ : FU P w G (a.eval x) (.eptr b e ix k) := hs.opd hx
 rcases hs.blk b _ hb with ⟨_, _, h0, _⟩ | ⟨β', cap, arr, el, h0, h1, h2, h3, h4, h5, h6⟩
 ·subst h0; simp at hrow
 rw [hβ] at h0; cases h0
 have hre := h5 ix row hrow
 have hix := AT hrow
 have hkn : k + n ≤ row.length := by
  have := congrArg uB hc
  simp at this; omega
 have hbnd : ix * e + e ≤ arr.size := by
  rw [h4, ← yQ]; exact zG e (by omega)
 have hbnd2 : ix * e + k + n ≤ arr.size := by omega
 refine ⟨.agg ((zT n).map fun j => AC arr (ix * e + k + j)).toArray, w, G, ?_, hs, ?_⟩
 ·simp only [execOp, hop, hv]
  exact Am (Ka ht hz h2 hbnd2) rfl
 ·rintro d ⟨⟩
  refine ⟨Nb hl fun j u hj => ?_, fun b hb => ?_⟩
  ·have hjn := AT hj
   rw [← hc, yB (by omega), xA] at hj
   have := h6 ix row _ u hrow hj
   rwa [← xE] at this
  ·have hb' : b ∈ E0 (us.map C.pure) := hb
   rw [Mh] at hb'; cases hb'
def OX (P : Program) (t : TypeId) : Bool := match P.underlying t with | some .string => true | _ => false
theorem W0 {x y : Operand} {t s : Nat} {b : ByteArray} {k : IntKind} {n : Int} {c : UInt8} (hat : At st.env ops i X.n (.index t x y) s gs)
  (hx : opd st.env x = some (vD (.string b))) (hy : opd st.env y = some (vD (.int k n))) (ht : OX P t = true) (h0 : 0 ≤ n) (hc : b[n.toNat]? = some c)
  (next : By P X ops dr Q r (i + 1) (C6.upd ⟨gs ++ [(x, vD (.string b)), (y, vD (.int k n))], [], some s, some (vD (.int .u8 (c.toNat : Int))), [], []⟩ st) ((i, ⟨gs ++ [(x, vD (.string b)), (y, vD (.int k n))], [], some s, some (vD (.int .u8 (c.toNat : Int))), [], []⟩) :: log)) : By P X ops dr Q (r + 1) i st log := by
 obtain ⟨o, ho, hop, hd, hn, hg, hgp⟩ := hat.out
 refine By.step next ⟨Ar.2 ⟨hgp, hx, hy, trivial⟩, trivial, trivial⟩ (LR.value ho hg rfl hd.symm (DU hd hn) ?_)
 intro G st a w hs hpre
 obtain ⟨hx, hy, _⟩ := (Ar.1 hpre.r).2
 have h1 : a.eval x = .string b := DR (hs.opd hx : DJ w G.S (a.eval x) (.val _))
 have h2 : a.eval y = .int k n := DR (hs.opd hy : DJ w G.S (a.eval y) (.val _))
 refine ⟨.int .u8 (c.toNat : Int), w, G, ?_, hs, ?_⟩
 ·simp only [execOp, hop, h1, h2]
  refine Am (a := .int .u8 (c.toNat : Int)) (w1 := w) ?_ rfl
  unfold OX at ht
  split at ht
  ·rename_i hu
   unfold Instr.index
   refine Am (a := (k, n)) (w1 := w) rfl ?_
   refine Am (AW hu w) ?_
   simp only [h0, if_true, hc]
   rfl
  ·cases ht
 ·rintro d ⟨⟩
  exact ⟨.val _ rfl, fun b hb => by cases hb⟩
end run
section maps
variable {K V : Type}
def HG [BEq K] (k : K) : List (K × V) → Option V
 | [] => none
 | p :: r => if k == p.1 then some p.2 else HG k r
def LA [BEq K] (k : K) (v : V) : List (K × V) → List (K × V)
 | [] => [(k, v)]
 | p :: r => if k == p.1 then (k, v) :: r else p :: LA k v r
def FC (kv : K → Value) (vt : V → T) (m : List (K × V)) : List (Value × T) := m.map fun p => (kv p.1, vt p.2)
end maps
structure Uh {K : Type} [BEq K] (P : Program) (t : TypeId) (kv : K → Value) : Prop where
 ty : ∃ kt el kd, P.underlying t = some (.map kt el) ∧ P.underlying kt = some kd ∧ (∀ a b : K, Instr.sameNow kd (kv a) (kv b) = some (a == b)) ∧ (∀ (e : Bool) (n : Nat) (v : K) (w : World), (Instr.checkKey e (n + 1) kt (kv v)).run P w = .ok () w)
 same : ∀ a b : K, (a == b) = true → Instr.sameBits 10000 (kv b) (kv a) = true
theorem LH {K V : Type} [BEq K] {kd : TypeDesc} {kv : K → Value} (h : ∀ a b : K, Instr.sameNow kd (kv a) (kv b) = some (a == b)) (k : K) : ∀ (m : List (K × V)) (es : List MapEntry) (i : Nat), es.length = m.length → (∀ (j : Nat) (p : K × V), m[j]? = some p → ∃ e : MapEntry, es[j]? = some e ∧ e.key = kv p.1) →
  (HG k m = none ∧ Instr.findNow kd (kv k) es i = some none) ∨ ∃ j p e, m[j]? = some p ∧ es[j]? = some e ∧ (k == p.1) = true ∧ HG k m = some p.2 ∧ Instr.findNow kd (kv k) es i = some (some (i + j, e.val)) ∧ (∀ v, LA k v m = m.set j (k, v))
 | [], [], i, _, _ => .inl ⟨rfl, rfl⟩
 | p :: m, e :: es, i, hl, hp => by
  obtain ⟨e0, h0, h1⟩ := hp 0 p rfl
  simp at h0; subst h0
  have h2 := h k p.1
  by_cases hk : (k == p.1) = true
  ·refine .inr ⟨0, p, e, rfl, rfl, hk, ?_, ?_, fun v => ?_⟩
   ·simp only [HG, hk, if_true]
   ·simp only [Instr.findNow, h1, h2, hk]; rfl
   ·simp only [LA, hk, if_true]; rfl
  ·have hk' : (k == p.1) = false := by simpa using hk
   rcases LH h k m es (i + 1) (by simpa using hl) (fun j q hq => hp (j + 1) q (by simpa using hq)) with ⟨g1, g2⟩ | ⟨j, q, e', g1, g2, g3, g4, g5, g6⟩
   ·refine .inl ⟨?_, ?_⟩
    ·simp only [HG, hk']; exact g1
    ·simp only [Instr.findNow, h1, h2, hk']; exact g2
   ·refine .inr ⟨j + 1, q, e', by simpa using g1, by simpa using g2, g3, ?_, ?_, fun v => ?_⟩
    ·simp only [HG, hk']; exact g4
    ·simp only [Instr.findNow, h1, h2, hk']; rw [g5]; simp [xE, Nat.add_comm 1]
    ·simp only [LA, hk']; rw [g6 v]; rfl
theorem Od {K V : Type} [BEq K] (k : K) (v : V) : ∀ {m : List (K × V)}, HG k m = none → LA k v m = m ++ [(k, v)]
 | [], _ => rfl
 | p :: m, h => by
  simp only [HG] at h
  split at h
  ·cases h
  ·rename_i hk
   simp only [LA]; rw [if_neg hk, Od k v h]; rfl
section run
variable {dr : Bool} {Q : St → Prop} {r i : Nat} {st : St} {log : List (Nat × C6)} {o : Oper} {gs : List (Operand × D)}
theorem WC {t s : Nat} (hat : At st.env ops i X.n (.makeMap t none) s gs) (hnew : st.bx s = none)
  (next : By P X ops dr Q r (i + 1) (C6.upd ⟨gs, [], some s, some (.e (.one (.mref s))), [(s, .mp [])], [s]⟩ st) ((i, ⟨gs, [], some s, some (.e (.one (.mref s))), [(s, .mp [])], [s]⟩) :: log)) : By P X ops dr Q (r + 1) i st log := by
 obtain ⟨o, ho, hop, hd, hn, hg, hgp⟩ := hat.out
 refine By.step next ⟨hgp, trivial, hnew, trivial⟩ (LR.value (rs := []) ho hg (by simp) hd.symm (DU hd hn) ?_)
 intro G st a w hs hpre
 have hnew := hpre.n.1
 have key := hs.newB (.map #[] 0) s (.mp []) undef (hs.nl hn) hnew
  ⟨w.heap.size, #[], 0, by simp [Gh.set], by rw [Ff, if_pos rfl], rfl, fun i x h => by simp at h⟩ (fun c hc => by cases hc)
 refine ⟨.map (some w.heap.size), _, _, ?_, key, ?_⟩
 ·simp only [execOp, hop]
  exact Am (a := .map (some w.heap.size)) (w1 := w.alloc (.map #[] 0)) rfl rfl
 ·rintro d ⟨⟩
  refine ⟨⟨w.heap.size, by simp [Gh.set], rfl⟩, fun b hb => ?_⟩
  simp [D.names, E.names, C.names] at hb
  subst hb; simp [Cw]
theorem DQ.mpAt {G : Gh} {a : Act} {w : World} (hs : DQ P X G st a w) {x : Operand} {b : Nat} {es : List (Value × T)} (hx : Lift.opd st.env x = some (.e (.one (.mref b)))) (hb : st.bx b = some (.mp es)) :
  ∃ β arr clock, a.eval x = .map (some β) ∧ G.loc b = some β ∧ w.heap[β]? = some (.map arr clock) ∧ arr.size = es.length ∧ ∀ (i : Nat) (y : Value × T), es[i]? = some y → ∃ m : MapEntry, arr[i]? = some m ∧ m.key = y.1 ∧ DJ w G.S m.val y.2 := by
 obtain ⟨β, hβ, hv⟩ : FU P w G (a.eval x) (.mref b) := hs.opd hx
 obtain ⟨β', arr, clock, h1, h2, h3, h4⟩ := hs.blk b _ hb
 rw [hβ] at h1; cases h1
 exact ⟨β, arr, clock, hv, hβ, h2, h3, h4⟩
theorem KZ {β : Nat} {arr : Array MapEntry} {clock : Nat} {w : World} (h : w.heap[β]? = some (.map arr clock)) : (getObj β).run P w = .ok (.map arr clock) w := by
 simp [getObj, Sem.run, h]
theorem QA {β : Nat} {arr : Array MapEntry} {clock : Nat} {o : Obj} {w : World} (h : w.heap[β]? = some (.map arr clock)) : (setObj β o).run P w = .ok () (HV w β o) := by
 simp [setObj, Sem.run, h, HV]
theorem JZ {K _V : Type} [BEq K] {kt : TypeId} {kd : TypeDesc} {kv : K → Value} {k : K} {es : List MapEntry} {r : Option (Nat × Value)} {w : World} (hu : P.underlying kt = some kd) (h : Instr.findNow kd (kv k) es 0 = some r) : (Instr.findKey kt (kv k) es).run P w = .ok r w := by
 unfold Instr.findKey
 refine Am (AW hu w) ?_
 rw [h]; rfl
inductive VD (w : World) : Value → Array MapEntry → Prop where
 | nil : VD w (.map none) #[]
 | here (β clock : Nat) (arr : Array MapEntry) (h : w.heap[β]? = some (.map arr clock)) : VD w (.map (some β)) arr
theorem UA {K V : Type} [BEq K] {t el : Nat} {c : Bool} {z x : Value} {kv : K → Value} {vt : V → T} {m : List (K × V)} {k : K} {dv v0 : V} {w : World} {S : Nat → Prop} {arr : Array MapEntry} (h3 : VD w x arr) (h4 : arr.size = (FC kv vt m).length)
  (h5 : ∀ (i : Nat) (y : Value × T), (FC kv vt m)[i]? = some y → ∃ e : MapEntry, arr[i]? = some e ∧ e.key = y.1 ∧ DJ w S e.val y.2)
  (hk : Uh P t kv) (hel : (match P.underlying t with | some (.map _ e) => e == el | _ => false) = true) (hz : DH P el = some z) (hzv : vt dv = .val z) (hz1 : Ig z = true) (hv0 : (HG k m).getD dv = v0) :
  ∃ v, (Instr.lookup t x (kv k) c).run P w = .ok (if c then .tuple #[v, .bool (HG k m).isSome] else v) w ∧ DJ w S v (vt v0) := by
 obtain ⟨kt, el', kd, u1, u2, u3, u4⟩ := hk.ty
 rw [u1] at hel
 have hel' : el' = el := by simpa using hel
 subst hel'
 have hes : ∀ (j : Nat) (p : K × V), m[j]? = some p → ∃ e : MapEntry, arr.toList[j]? = some e ∧ e.key = kv p.1 ∧ DJ w S e.val (vt p.2) := fun j p hp => by
  obtain ⟨e, e1, e2, e3⟩ := h5 j (kv p.1, vt p.2) (by unfold FC; rw [zH, hp]; rfl)
  exact ⟨e, by simpa using e1, e2, e3⟩
 rcases LH (V := V) u3 k m arr.toList 0 (by simp [h4, FC]) (fun j p hp => by obtain ⟨e, e1, e2, _⟩ := hes j p hp; exact ⟨e, e1, e2⟩) with ⟨g1, g2⟩ | ⟨j, q, e, g1, g2, g3, g4, g5, _⟩
 ·refine ⟨z, ?_, ?_⟩
  ·rw [g1]
   unfold Instr.lookup
   refine Am (AW u1 w) ?_
   cases h3
   case' here h3 => refine Am (KZ h3) ?_
   all_goals refine Am (a := _) (w1 := w) rfl ?_
   all_goals refine Am (u4 _ _ _ _) ?_
   all_goals refine Am (JZ (_V := V) u2 g2) ?_
   all_goals refine Am (Hq hz w) ?_
   all_goals exact Am (a := (z, false)) (w1 := w) rfl rfl
  ·rw [← hv0, g1, Option.getD_none, hzv]; exact .val _ hz1
 ·refine ⟨e.val, ?_, ?_⟩
  ·rw [g4]
   unfold Instr.lookup
   refine Am (AW u1 w) ?_
   cases h3 with
   | nil => cases g2
   | here β clock _ h3 =>
    refine Am (KZ h3) ?_
    refine Am (a := arr) (w1 := w) rfl ?_
    refine Am (u4 _ _ _ _) ?_
    refine Am (JZ (_V := V) u2 g5) ?_
    exact Am (a := (e.val, true)) (w1 := w) rfl rfl
  ·obtain ⟨e', e1, _, e3⟩ := hes j q g1
   rw [g2] at e1; cases e1
   rw [← hv0, g4]; exact e3
inductive fv : D → List (Value × T) → List (Nat × B8) → Prop where
 | ref (b : Nat) (es : List (Value × T)) : fv (.e (.one (.mref b))) es [(b, .mp es)]
 | tree (es : List (Value × T)) : fv (one (.mp es)) es []
theorem DQ.mpAtD {G : Gh} {a : Act} {w : World} (hs : DQ P X G st a w) {x : Operand} {d : D} {es : List (Value × T)} {bs : List (Nat × B8)} (hm : fv d es bs) (hx : Lift.opd st.env x = some d) (hb : Iy st.bx bs) :
  ∃ arr, VD w (a.eval x) arr ∧ arr.size = es.length ∧ ∀ (i : Nat) (y : Value × T), es[i]? = some y → ∃ m : MapEntry, arr[i]? = some m ∧ m.key = y.1 ∧ DJ w G.S m.val y.2 := by
 cases hm with
 | ref b =>
  obtain ⟨β, arr, clock, h1, h2, h3, h4, h5⟩ := hs.mpAt hx hb.1
  exact ⟨arr, by rw [h1]; exact .here β clock arr h3, h4, h5⟩
 | tree =>
  have h : DJ w G.S (a.eval x) (.mp es) := hs.opd hx
  generalize a.eval x = v at h
  cases h with
  | mp β clock arr _ h1 h2 h3 h4 h5 =>
   refine ⟨arr, .here β clock arr h2, h3, fun i y hy => ?_⟩
   have hlt : i < arr.size := by rw [h3]; exact AT hy
   exact ⟨arr[i], by simp [hlt], h4 i y _ hy (by simp [hlt]), h5 i y _ hy (by simp [hlt])⟩
  | mp0 => exact ⟨#[], .nil, rfl, fun i y hy => by simp at hy⟩
theorem Wy {K V : Type} [BEq K] {t s el : Nat} {x y : Operand} {c : Bool} {z : Value} {kv : K → Value} {vt : V → T} {m : List (K × V)} {k : K} {dv v0 : V} {dx : D} {bs : List (Nat × B8)} (hmd : fv dx (FC kv vt m) bs) (hat : At st.env ops i X.n (.lookup t x y c) s gs)
  (hx : opd st.env x = some dx) (hy : opd st.env y = some (vD (kv k))) (hb : Iy st.bx bs) (hk : Uh P t kv) (hel : (match P.underlying t with | some (.map _ e) => e == el | _ => false) = true) (hz : DH P el = some z) (hzv : vt dv = .val z) (hz1 : Ig z = true) (hv0 : (HG k m).getD dv = v0)
  (next : By P X ops dr Q r (i + 1) (C6.upd ⟨gs ++ [(x, dx), (y, vD (kv k))], bs, some s, some (if c then .tup [.one (.pure (vt v0)), .one (.pure (.val (.bool (HG k m).isSome)))] else one (vt v0)), [], []⟩ st) ((i, ⟨gs ++ [(x, dx), (y, vD (kv k))], bs, some s, some (if c then .tup [.one (.pure (vt v0)), .one (.pure (.val (.bool (HG k m).isSome)))] else one (vt v0)), [], []⟩) :: log)) : By P X ops dr Q (r + 1) i st log := by
 obtain ⟨o, ho, hop, hd, hn, hg, hgp⟩ := hat.out
 refine By.step next ⟨Ar.2 ⟨hgp, hx, hy, trivial⟩, hb, trivial⟩ (LR.value ho hg rfl hd.symm (DU hd hn) ?_)
 intro G st a w hs hpre
 obtain ⟨hx, hy, _⟩ := (Ar.1 hpre.r).2
 obtain ⟨arr, h3, h4, h5⟩ := hs.mpAtD hmd hx hpre.b
 have hY : a.eval y = kv k := DR (hs.opd hy : DJ w G.S (a.eval y) (.val _))
 obtain ⟨v, hv1, hv2⟩ := UA (c := c) h3 h4 h5 hk hel hz hzv hz1 hv0
 refine ⟨(if c then .tuple #[v, .bool (HG k m).isSome] else v), w, G, ?_, hs, ?_⟩
 ·simp only [execOp, hop, hY]
  exact Am hv1 rfl
 ·rintro d hd'
  cases c with
  | false => cases hd'; exact ⟨hv2, fun b hb => by cases hb⟩
  | true =>
   cases hd'
   refine ⟨⟨_, rfl, rfl, fun j x hj => ?_⟩, fun b hb => by simp [D.names, Kd, E.names, C.names] at hb⟩
   match j, hj with
   | 0, hj => cases hj; exact hv2
   | 1, hj => cases hj; exact .val _ rfl
theorem Xv {K V : Type} [BEq K] {t s b el : Nat} {x y : Operand} {c : Bool} {z : Value} {kv : K → Value} {vt : V → T} {m : List (K × V)} {k : K} {dv v0 : V} (hat : At st.env ops i X.n (.lookup t x y c) s gs)
  (hx : opd st.env x = some (.e (.one (.mref b)))) (hy : opd st.env y = some (vD (kv k))) (hb : st.bx b = some (.mp (FC kv vt m))) (hk : Uh P t kv) (hel : (match P.underlying t with | some (.map _ e) => e == el | _ => false) = true) (hz : DH P el = some z) (hzv : vt dv = .val z) (hz1 : Ig z = true) (hv0 : (HG k m).getD dv = v0)
  (next : By P X ops dr Q r (i + 1) (C6.upd ⟨gs ++ [(x, .e (.one (.mref b))), (y, vD (kv k))], [(b, .mp (FC kv vt m))], some s, some (if c then .tup [.one (.pure (vt v0)), .one (.pure (.val (.bool (HG k m).isSome)))] else one (vt v0)), [], []⟩ st) ((i, ⟨gs ++ [(x, .e (.one (.mref b))), (y, vD (kv k))], [(b, .mp (FC kv vt m))], some s, some (if c then .tup [.one (.pure (vt v0)), .one (.pure (.val (.bool (HG k m).isSome)))] else one (vt v0)), [], []⟩) :: log)) : By P X ops dr Q (r + 1) i st log :=
 Wy (.ref b _) hat hx hy ⟨hb, trivial⟩ hk hel hz hzv hz1 hv0 next
theorem Yq {K V : Type} [BEq K] {t b : Nat} {x y u : Operand} {kv : K → Value} {vt : V → T} {m m' : List (K × V)} {k : K} {v : V} {op : Op} (hat : We ops i = some op) (hop' : op = .mapUpdate t x y u ∨ op = .insert t x y u)
  (hx : opd st.env x = some (.e (.one (.mref b)))) (hy : opd st.env y = some (vD (kv k))) (hu : opd st.env u = some (one (vt v))) (hb : st.bx b = some (.mp (FC kv vt m))) (hk : Uh P t kv) (hm : LA k v m = m')
  (next : By P X ops dr Q r (i + 1) (C6.upd ⟨[(x, .e (.one (.mref b))), (y, vD (kv k)), (u, one (vt v))], [(b, .mp (FC kv vt m))], none, none, [(b, .mp (FC kv vt m'))], []⟩ st) ((i, ⟨[(x, .e (.one (.mref b))), (y, vD (kv k)), (u, one (vt v))], [(b, .mp (FC kv vt m))], none, none, [(b, .mp (FC kv vt m'))], []⟩) :: log)) : By P X ops dr Q (r + 1) i st log := by
 obtain ⟨o, ho, hop, hd, hgn⟩ := Sr hat
 have hg : YY ops o [] := .none hgn
 refine By.step next ⟨⟨hx, hy, hu, trivial⟩, ⟨hb, trivial⟩, trivial⟩ (LR.skip (rs := [(x, .e (.one (.mref b))), (y, vD (kv k)), (u, one (vt v))]) ho hg rfl hd rfl ?_)
 intro G st a w hs hpre
 obtain ⟨hx, hy, hu, _⟩ := hpre.r
 have hb := hpre.b.1
 subst hm
 obtain ⟨β, arr, clock, h1, h2, h3, h4, h5⟩ := hs.mpAt hx hb
 have hY : a.eval y = kv k := DR (hs.opd hy : DJ w G.S (a.eval y) (.val _))
 have hU : DJ w G.S (a.eval u) (vt v) := hs.opd hu
 obtain ⟨kt, el', kd, u1, u2, u3, u4⟩ := hk.ty
 have hes : ∀ (j : Nat) (p : K × V), m[j]? = some p → ∃ e : MapEntry, arr.toList[j]? = some e ∧ e.key = kv p.1 ∧ DJ w G.S e.val (vt p.2) := fun j p hp => by
  obtain ⟨e, e1, e2, e3⟩ := h5 j (kv p.1, vt p.2) (by unfold FC; rw [zH, hp]; rfl)
  exact ⟨e, by simpa using e1, e2, e3⟩
 have hat := hs.at_ok b _ β hb rfl (.inl h2)
 have hml : arr.size = m.length := by rw [h4]; simp [FC]
 have fin : ∀ arr' clock', arr'.size = (LA k v m).length → (∀ (j : Nat) (p : K × V), (LA k v m)[j]? = some p → ∃ e : MapEntry, arr'[j]? = some e ∧ e.key = kv p.1 ∧ DJ w G.S e.val (vt p.2)) →
   DQ P X G ⟨st.env, Cw st.bx [(b, .mp (FC kv vt (LA k v m)))]⟩ a (HV w β (.map arr' clock')) := by
  intro arr' clock' k1 k2
  have hS : ∀ γ, G.S γ → (HV w β (.map arr' clock')).heap[γ]? = w.heap[γ]? := fun γ hγ => by
   rw [Fr, if_neg (fun (h : γ = β ∧ β < w.heap.size) => hat.2.2 (h.1 ▸ hγ))]
  refine hs.setB (b := b) (k0 := .mp (FC kv vt m)) hb rfl rfl (.inl h2) ⟨β, arr', clock', h2, by rw [Fr, if_pos ⟨rfl, hat.2.1⟩], by rw [k1]; simp [FC], fun j y hy => ?_⟩ (fun c hc => by cases hc)
  unfold FC at hy
  rw [zH] at hy
  cases hp : (LA k v m)[j]? with
  | none => rw [hp] at hy; cases hy
  | some p =>
   rw [hp] at hy; cases hy
   obtain ⟨e, e1, e2, e3⟩ := k2 j p hp
   exact ⟨e, e1, e2, e3.mono hS fun _ h => h⟩
 have hrun : ∀ w', (Instr.mapUpdate t (.map (some β)) (kv k) (a.eval u)).run P w = .ok () w' → (execOp a.eval o).run P w = .ok .skip w' := fun w' h => by
  rcases hop' with e | e
  ·simp only [execOp, hop, e, h1, hY]; exact Am h rfl
  ·simp only [execOp, hop, e, h1, hY]; exact Am h rfl
 rcases LH (V := V) u3 k m arr.toList 0 (by simp [hml]) (fun j p hp => by obtain ⟨e, e1, e2, _⟩ := hes j p hp; exact ⟨e, e1, e2⟩) with ⟨g1, g2⟩ | ⟨j, q, e, g1, g2, g3, g4, g5, g6⟩
 ·refine ⟨_, G, hrun _ ?_, fin (arr.push { key := kv k, val := a.eval u, born := clock }) (clock + 1) ?_ ?_⟩
  ·unfold Instr.mapUpdate
   refine Am (AW u1 w) ?_
   refine Am (KZ h3) ?_
   refine Am (u4 _ _ _ _) ?_
   refine Am (JZ (_V := V) u2 g2) ?_
   exact QA h3
  ·rw [Od k v g1]; simp [hml]
  ·intro j p hp
   rw [Od k v g1] at hp
   by_cases hj : j < m.length
   ·rw [yC hj] at hp
    obtain ⟨e, e1, e2, e3⟩ := hes j p hp
    refine ⟨e, ?_, e2, e3⟩
    rw [Array.getElem?_push, if_neg (by omega)]
    simpa using e1
   ·rw [yJ (by omega)] at hp
    have hj0 : j - m.length = 0 := by have := AT hp; simp at this; omega
    rw [hj0] at hp; cases hp
    exact ⟨{ key := kv k, val := a.eval u, born := clock }, by rw [Array.getElem?_push, if_pos (by omega)], rfl, hU⟩
 ·have hjm := AT g1
  have hje : arr[j]? = some e := by simpa using g2
  have hek : e.key = kv q.1 := by obtain ⟨e', e1, e2, _⟩ := hes j q g1; rw [g2] at e1; cases e1; exact e2
  refine ⟨_, G, hrun _ ?_, fin (arr.modify j fun e => { e with key := kv k, val := a.eval u }) clock ?_ ?_⟩
  ·unfold Instr.mapUpdate
   refine Am (AW u1 w) ?_
   refine Am (KZ h3) ?_
   refine Am (u4 _ _ _ _) ?_
   refine Am (JZ (_V := V) u2 g5) ?_
   simp only [zI]
   refine Am (a := kv k) (w1 := w) ?_ (QA h3)
   rw [hje]
   simp only [yT, yP]
   unfold Instr.keyThatStays
   rw [hek, hk.same k q.1 g3]; rfl
  ·rw [g6 v]; simp [hml]
  ·intro j' p hp
   rw [g6 v] at hp
   rw [Array.getElem?_modify]
   rcases Pk hp with ⟨rfl, rfl⟩ | ⟨hne, hp⟩
   ·rw [if_pos rfl, hje]
    exact ⟨_, rfl, rfl, hU⟩
   ·rw [if_neg (fun h => hne h.symm)]
    obtain ⟨e', e1, e2, e3⟩ := hes j' p hp
    exact ⟨e', by simpa using e1, e2, e3⟩
end run
end Go.Lift
namespace Go.Lift
open Go.RowKit
variable {P : Program} {X : IT} {ops : Array Oper}
section run
variable {dr : Bool} {Q : St → Prop} {r i : Nat} {st : St} {log : List (Nat × C6)} {o : Oper} {gs : List (Operand × D)}
def gz : Ow → Bool
 | .s => true
 | _ => false
end run
def inner (e : Nat) (cols : List Ow) (rows : List (List T)) : B8 := if cols.all gz then .vec e rows else .dvec e cols rows
section run
variable {dr : Bool} {Q : St → Prop} {r i : Nat} {st : St} {log : List (Nat × C6)} {o : Oper} {gs : List (Operand × D)}
end run
end Go.Lift
namespace Go.Lift
open Go.RowKit
variable {P : Program} {X : IT} {ops : Array Oper}
section run
variable {dr : Bool} {Q : St → Prop} {r i : Nat} {st : St} {log : List (Nat × C6)} {o : Oper} {gs : List (Operand × D)}
structure RO (w : World) (S : Nat → Prop) (e : Nat) (cols : List Ow) (rows : List (List T)) (Rf : Nat → Nat → Nat → Prop) (f : Nat → Value) : Prop where
 len : ∀ (i : Nat) (row : List T), rows[i]? = some row → row.length = e
 cell : ∀ (i : Nat) (row : List T) (j : Nat) (t : T), rows[i]? = some row → row[j]? = some t → Uz w S (cols.getD j .s) (Rf i j) (f (i * e + j)) t
 dis : ∀ i j i' j' γ, Rf i j γ → Rf i' j' γ → i = i' ∧ j = j'
theorem RO.ones {w : World} {S : Nat → Prop} {e : Nat} {cols : List Ow} {rows : List (List T)} {Rf : Nat → Nat → Nat → Prop} {arr : Array Value} (h : RO w S e cols rows Rf (AC arr)) (hs : arr.size = rows.length * e) : ∀ u, u ∈ arr.toList → Ig u = true := by
 intro u hu
 obtain ⟨k, hk⟩ := zM.1 hu
 have hk' : arr[k]? = some u := by simpa using hk
 have hlt : k < arr.size := by
  rcases yO k arr.size with h' | h'
  ·exact h'
  ·rw [yY h'] at hk'; cases hk'
 rcases xP e with e0 | e0
 ·rw [e0, Nat.mul_zero] at hs; omega
 have h1 : k / e < rows.length := (Nat.div_lt_iff_lt_mul e0).2 (by omega)
 have h2 : k % e < e := Nat.mod_lt _ e0
 have hrow : rows[k / e]? = some rows[k / e] := by simp [h1]
 have hlen := h.len _ _ hrow
 have hcell : (rows[k / e])[k % e]? = some ((rows[k / e])[k % e]'(by omega)) := by simp [show k % e < rows[k / e].length from by omega]
 have := (h.cell _ _ _ _ hrow hcell).one
 rw [show k / e * e + k % e = k from by rw [Nat.mul_comm]; exact Nat.div_add_mod k e] at this
 simpa [AC, hk'] using this
theorem RO.app {w w' : World} {S : Nat → Prop} {e : Nat} {cols : List Ow} {rows rows2 : List (List T)} {Rf Rf2 : Nat → Nat → Nat → Prop} {f f2 g : Nat → Value} (h1 : RO w S e cols rows Rf f) (h2 : RO w S e cols rows2 Rf2 f2)
  (hx : ∀ i j i' j' γ, Rf i j γ → Rf2 i' j' γ → False) (hg1 : ∀ j, j < rows.length * e → g j = f j) (hg2 : ∀ j, j < rows2.length * e → g (rows.length * e + j) = f2 j)
  (hw : ∀ γ, S γ ∨ (∃ i j, Rf i j γ ∨ Rf2 i j γ) → w'.heap[γ]? = w.heap[γ]?) : RO w' S e cols (rows ++ rows2) (fun i j γ => if i < rows.length then Rf i j γ else Rf2 (i - rows.length) j γ) g := by
 have hlen : ∀ (i : Nat) (row : List T), (rows ++ rows2)[i]? = some row → row.length = e := fun i row hi => by
  rcases yO i rows.length with h | h
  ·rw [yC h] at hi; exact h1.len i row hi
  ·rw [yJ h] at hi; exact h2.len _ row hi
 refine ⟨hlen, fun i row j t hi hj => ?_, fun i j i' j' γ hγ hγ' => ?_⟩
 ·have hj' := AT hj
  have he := hlen i row hi
  rcases yO i rows.length with h | h
  ·rw [yC h] at hi
   have hle : i * e + e ≤ rows.length * e := by rw [← yQ]; exact zG e h
   rw [hg1 _ (by omega)]
   exact (h1.cell i row j t hi hj).mono (fun γ hγ => hw γ (hγ.imp id fun hr => ⟨i, j, .inl hr⟩)) (fun _ h => h) (fun γ hγ => by rw [if_pos h]; exact hγ)
  ·rw [yJ h] at hi
   have hi2 := AT hi
   have hle : (i - rows.length) * e + e ≤ rows2.length * e := by rw [← yQ]; exact zG e hi2
   have hsplit : i * e + j = rows.length * e + ((i - rows.length) * e + j) := by
    rw [← xE, ← y8, show rows.length + (i - rows.length) = i from by omega]
   rw [hsplit, hg2 _ (by omega)]
   exact (h2.cell _ row j t hi hj).mono (fun γ hγ => hw γ (hγ.imp id fun hr => ⟨_, j, .inr hr⟩)) (fun _ h => h) (fun γ hγ => by rw [if_neg (by omega)]; exact hγ)
 ·split at hγ <;> split at hγ'
  ·exact h1.dis i j i' j' γ hγ hγ'
  ·exact (hx _ _ _ _ γ hγ hγ').elim
  ·exact (hx _ _ _ _ γ hγ' hγ).elim
  ·have := h2.dis _ j _ j' γ hγ hγ'
   exact ⟨by omega, this.2⟩
end run
end Go.Lift
namespace Go.Lift
open Go.RowKit
variable {P : Program} {X : IT} {ops : Array Oper}
theorem Qs {α : Type} (f : α → List T) (b e : Nat) (xs : List α) : Q8 (.e (.one (.own b))) b e (xs.map f) 0 xs.length := by
 have := Q8.own b e (xs.map f)
 rwa [zU] at this
theorem Wx {α : Type} (f : α → List T) (b e lo len : Nat) (xs : List α) (h : lo + len ≤ xs.length) : Q8 (.e (.one (.view b e lo len))) b e (xs.map f) lo len := .view b e _ lo len (by simpa using h)
theorem WH {α : Type} (f : α → List T) (b e lo len : Nat) (xs : List α) (h : lo + len ≤ xs.length) : TH (.e (.one (.view b e lo len))) [(b, .vec e (xs.map f))] e (((xs.drop lo).take len).map f) := by
 have := TH.view b e (xs.map f) lo len (by simpa using h)
 rwa [← List.map_drop, ← List.map_take] at this
theorem Ze {α : Type} (f : α → List T) (e : Nat) (xs : List α) (h : ∀ x, (f x).length = e) : TH (one (.sl (xs.map f))) [] e (xs.map f) := .of (.sl _ _ (L5 h xs))
section run
variable {dr : Bool} {Q : St → Prop} {r i : Nat} {st : St} {log : List (Nat × C6)} {o : Oper} {gs : List (Operand × D)}
theorem Tj {α : Type} (f : α → List T) (xs : List α) {x : Operand} {t el s e l h b lo0 len lo1 len1 : Nat} {lo hi : Option Operand} {rl rh : List (Operand × D)} {d : D} (hat : At st.env ops i X.n (.slice t x lo hi none) s gs)
  (hx : opd st.env x = some d) (hD : Q8 d b e (xs.map f) lo0 len) (hb : st.bx b = some (.vec e (xs.map f))) (ht : sliceB P t el = true) (he : Hn P el e = true) (hlo : Um lo 0 l rl) (hhi : Um hi len h rh) (h1 : FB st.env rl) (h2 : FB st.env rh) (hlh : l ≤ h) (hhl : lo0 + h ≤ xs.length) (e1 : lo0 + l = lo1) (e2 : h - l = len1)
  (next : By P X ops dr Q r (i + 1) (C6.upd ⟨gs ++ ((x, d) :: (rl ++ rh)), [(b, .vec e (xs.map f))], some s, some (.e (.one (.view b e lo1 len1))), [], []⟩ st) ((i, ⟨gs ++ ((x, d) :: (rl ++ rh)), [(b, .vec e (xs.map f))], some s, some (.e (.one (.view b e lo1 len1))), [], []⟩) :: log)) : By P X ops dr Q (r + 1) i st log := by
 subst e1; subst e2
 exact Xo hat hx hD hb ht he hlo hhi h1 h2 hlh (by simpa using hhl) next
theorem Vk {α : Type} (f : α → List T) (xs ys : List α) {x y : Operand} {t t2 el s e b lo len : Nat} {d d2 : D} {rb2 : List (Nat × B8)} (hat : At st.env ops i X.n (.call ⟨.builtin .copy, #[x, y], #[t, t2]⟩) s gs)
  (hx : opd st.env x = some d) (hD : Q8 d b e (xs.map f) lo len) (hb : st.bx b = some (.vec e (xs.map f))) (hy : opd st.env y = some d2) (hS : TH d2 rb2 e (ys.map f)) (hb2 : Iy st.bx rb2) (ht : sliceB P t el = true) (he : Hn P el e = true)
  (next : By P X ops dr Q r (i + 1) (C6.upd ⟨gs ++ [(x, d), (y, d2)], (b, .vec e (xs.map f)) :: rb2, some s, some (vD (.int .i64 ((y7 ys.length len : Nat) : Int))), [(b, .vec e ((Sq xs lo (ys.take (y7 ys.length len))).map f))], []⟩ st) ((i, ⟨gs ++ [(x, d), (y, d2)], (b, .vec e (xs.map f)) :: rb2, some s, some (vD (.int .i64 ((y7 ys.length len : Nat) : Int))), [(b, .vec e ((Sq xs lo (ys.take (y7 ys.length len))).map f))], []⟩) :: log)) : By P X ops dr Q (r + 1) i st log := by
 have hl : (ys.map f).length = ys.length := zU _
 refine bI hat hx hD hb hy hS hb2 ht he (rows' := (Sq xs lo (ys.take (y7 ys.length len))).map f) ?_ ?_
 ·rw [hl, ← List.map_take, Zu]
 ·rw [hl]; exact next
end run
theorem az {c : Code} {Q : Exit → St → Prop} {st : St} (h : W P X c (fun e st => ∃ st', Hh P X st st' ∧ Q e st') st) : W P X c Q st := by
 intro a w hs
 refine wp_mono (h a w hs) ?_
 rintro e a' w' ⟨st', ⟨st2, h1, h2⟩, h3⟩
 exact ⟨st2, h2, h1 a' w' h3⟩
def Vy (f : Nat → Nat) (env : Nat → Option D) : List (Nat × D) → Prop
 | [] => True
 | (s, d) :: ps => env s = some (d.ren f) ∧ Vy f env ps
def VU (f : Nat → Nat) (bx : Nat → Option B8) : List (Nat × B8) → Prop
 | [] => True
 | (b, k) :: ps => bx (f b) = some (k.ren f) ∧ VU f bx ps
def FX : List (Nat × B8) → List Nat
 | [] => []
 | (b, _) :: ps => b :: FX ps
def OD (f : Nat → Nat) : List Nat → Bool
 | [] => true
 | b :: bs => (if Cz b then f b == b else !Cz (f b)) && OD f bs
def d1 (b : Nat) : List Nat → Bool
 | [] => false
 | c :: cs => c == b || d1 b cs
def RF (ns : List Nat) : List (Nat × D) → Bool
 | [] => true
 | (_, d) :: ps => (d.names.all fun b => d1 b ns) && RF ns ps
def Rm (ns : List Nat) : List (Nat × B8) → Bool
 | [] => true
 | (_, d) :: ps => (d.names.all fun b => d1 b ns) && Rm ns ps
theorem Td {f : Nat → Nat} {env : Nat → Option D} : ∀ {el : List (Nat × D)}, Vy f env el → Zj f env el
 | [], _ => trivial
 | (_, _) :: _, h => ⟨h.1, Td h.2⟩
theorem Tf {f : Nat → Nat} {bx : Nat → Option B8} : ∀ {bl : List (Nat × B8)}, VU f bx bl → Y5 f bx bl
 | [], _ => trivial
 | (_, _) :: _, h => ⟨h.1, Tf h.2⟩
theorem RZ : ∀ bl : List (Nat × B8), FX bl = bl.map (·.1)
 | [] => rfl
 | (b, k) :: ps => by simp [FX, RZ ps]
theorem RL {f : Nat → Nat} : ∀ bl : List (Nat × B8), OD f (FX bl) = bl.all fun p => if Cz p.1 then f p.1 == p.1 else !Cz (f p.1)
 | [] => rfl
 | (b, k) :: ps => by simp only [FX, OD, xB, RL ps]
theorem UO {b : Nat} : ∀ bl : List (Nat × B8), d1 b (FX bl) = bl.any fun q => q.1 == b
 | [] => rfl
 | (c, k) :: ps => by simp only [FX, d1, List.any_cons, UO ps]
theorem TV (bl : List (Nat × B8)) : ∀ el : List (Nat × D), RF (FX bl) el = el.all fun p => p.2.names.all fun b => bl.any fun q => q.1 == b
 | [] => rfl
 | (s, d) :: ps => by simp only [RF, xB, TV bl ps, UO]
theorem TW (bl : List (Nat × B8)) : ∀ el : List (Nat × B8), Rm (FX bl) el = el.all fun p => p.2.names.all fun b => bl.any fun q => q.1 == b
 | [] => rfl
 | (s, d) :: ps => by simp only [Rm, xB, TW bl ps, UO]
theorem XP {st : St} (f : Nat → Nat) (el : List (Nat × D)) (bl : List (Nat × B8)) (he : Vy f st.env el) (hb : VU f st.bx bl) (hi : (Jx ((FX bl).map f) && OD f (FX bl)) = true) (hs : (RF (FX bl) el && Rm (FX bl) bl) = true) : Hh P X st (mk el bl) := by
 refine ZJ f el bl (Td he) (Tf hb) ?_ ?_
 ·rw [RL, RZ] at hi; exact hi
 ·rw [TV, TW] at hs; exact hs
theorem WL {dr : Bool} {Q : St → Prop} {r i : Nat} {st : St} {log : List (Nat × C6)} {gs : List (Operand × D)} {x y : Operand} {t s : Nat} {b : ByteArray} {k : IntKind} {n v : Int} (hat : At st.env ops i X.n (.index t x y) s gs)
  (hx : opd st.env x = some (vD (.string b))) (hy : opd st.env y = some (vD (.int k n))) (ht : OX P t = true) (hv : ZQ b n = some v)
  (next : By P X ops dr Q r (i + 1) (C6.upd ⟨gs ++ [(x, vD (.string b)), (y, vD (.int k n))], [], some s, some (vD (.int .u8 v)), [], []⟩ st) ((i, ⟨gs ++ [(x, vD (.string b)), (y, vD (.int k n))], [], some s, some (vD (.int .u8 v)), [], []⟩) :: log)) : By P X ops dr Q (r + 1) i st log := by
 obtain ⟨c, h0, hc, e⟩ := WA (f := some) (r := v) (by rw [hv]; rfl)
 cases e
 exact W0 hat hx hy ht h0 hc next
theorem RN {t kt el : TypeId} {k : IntKind} (h1 : P.underlying t = some (.map kt el)) (h2 : P.underlying kt = some (.int k)) : Uh P t (Value.int k) where
 ty := ⟨kt, el, .int k, h1, h2, fun a b => by simp [Instr.sameNow], fun e n v w => by
  unfold Instr.checkKey
  refine Am (AW h2 w) ?_
  rfl⟩
 same := fun a b h => by
  show (k == k && b == a) = true
  rw [beq_iff_eq] at h; subst h; simp
end Go.Lift
namespace Go.Lift
open Go.RowKit
variable {P : Program} {X : IT} {ops : Array Oper}
def hd (env : Nat → Option D) (ops : Array Oper) (i n : Nat) : Option (Op × Nat × List (Operand × D)) := match fG ops i n with
 | some (op, s) => some (op, s, [])
 | none => match fV ops i n with
  | some (op, s, t, want) => (match env t, want with
   | some (.e (.one (.pure (.val (.bool true))))), true => some (op, s, [(.tmp t, bD true)])
   | some (.e (.one (.pure (.val (.bool false))))), false => some (op, s, [(.tmp t, bD false)])
   | _, _ => none)
  | none => none
theorem DL {env : Nat → Option D} {n i s : Nat} {op : Op} {gs : List (Operand × D)} (h : hd env ops i n = some (op, s, gs)) : At env ops i n op s gs := by
 unfold hd at h
 split at h
 ·rename_i e; cases h; exact .p e
 ·split at h
  ·rename_i e
   split at h
   ·rename_i e2; cases h; exact .g e e2
   ·rename_i e2; cases h; exact .g e e2
   ·cases h
  ·cases h
theorem t2 {α β : Type} {a c : α} {b d : β} (h : (a, b) = (c, d)) : a = c ∧ b = d := Prod.mk.inj h
abbrev Nx (P : Program) (X : IT) (ops : Array Oper) (dr : Bool) (Q : St → Prop) (r i : Nat) (st : St) (log : List (Nat × C6)) (l : C6) : Prop := By P X ops dr Q r (i + 1) (C6.upd l st) ((i, l) :: log)
theorem sj {α : Type} {a b : α} (h : some a = some b) : a = b := Option.some.inj h
def XG (env : Nat → Option D) : List Operand → Option (List D)
 | [] => some []
 | x :: xs => match opd env x, XG env xs with
  | some d, some ds => some (d :: ds)
  | _, _ => none
theorem R9 {env : Nat → Option D} : ∀ {xs : List Operand} {ds : List D}, XG env xs = some ds → xs.length = ds.length ∧ FB env (IB xs ds)
 | [], ds, h => by cases h; exact ⟨rfl, trivial⟩
 | x :: xs, ds, h => by
  simp only [XG] at h
  split at h
  ·rename_i e1 e2
   cases h
   have := R9 e2
   exact ⟨by simp [this.1], e1, this.2⟩
  ·cases h
def fy (bx : Nat → Option B8) : List Nat → Option (List (Nat × B8))
 | [] => some []
 | b :: bs => match bx b, fy bx bs with
  | some k, some ks => some ((b, k) :: ks)
  | _, _ => none
theorem YT {bx : Nat → Option B8} : ∀ {l : List Nat} {bs : List (Nat × B8)}, fy bx l = some bs → Iy bx bs
 | [], bs, h => by cases h; trivial
 | b :: l, bs, h => by
  simp only [fy] at h
  split at h
  ·rename_i e1 e2
   cases h
   exact ⟨e1, YT e2⟩
  ·cases h
def cR (env : Nat → Option D) : List (Nat × Operand) → Option (List (Nat × Operand × E))
 | [] => some []
 | p :: ps => match opd env p.2, cR env ps with
  | some (.e y), some qs => some ((p.1, p.2, y) :: qs)
  | _, _ => none
theorem VA {env : Nat → Option D} : ∀ {l : List (Nat × Operand)} {ps : List (Nat × Operand × E)}, cR env l = some ps → l = (ps.map fun p => (p.1, p.2.1)) ∧ FB env (Ie ps)
 | [], ps, h => by cases h; exact ⟨rfl, trivial⟩
 | p :: l, ps, h => by
  simp only [cR] at h
  split at h
  ·rename_i e1 e2
   cases h
   have := VA e2
   exact ⟨by rw [yR, ← this.1], e1, this.2⟩
  ·cases h
theorem X0 {env : Nat → Option D} {parts : Array (Nat × Operand)} {ps : List (Nat × Operand × E)} (h : cR env parts.toList = some ps) : parts = (ps.map fun p => (p.1, p.2.1)).toArray ∧ FB env (Ie ps) := by
 have := VA h
 exact ⟨by rw [← this.1], this.2⟩
def ZH (k : Nat) : List (Nat × Operand × E) → Bool
 | [] => true
 | p :: ps => Nat.beq p.1 k && ZH (k + 1) ps
theorem VR : ∀ {k : Nat} {ps : List (Nat × Operand × E)}, ZH k ps = true → ps.map (·.1) = uP k ps.length
 | _, [], _ => rfl
 | k, p :: ps, h => by
  simp only [ZH, zC] at h
  rw [yR, zX, List.range'_succ, VR h.2, Nat.eq_of_beq_eq_true h.1]
def gm : Option B8 → Bool
 | none => true
 | some _ => false
theorem SE {bx : Nat → Option B8} : ∀ {ns : List Nat}, (ns.all fun n => gm (bx n)) = true → On bx ns
 | [], _ => trivial
 | n :: ns, h => by
  simp only [xB, zC] at h
  refine ⟨?_, SE h.2⟩
  have := h.1
  cases hb : bx n with
  | none => rfl
  | some k => rw [hb] at this; cases this
theorem Rc {ns : List Nat} (h : (Jx ns && (ns.all fun n => !Cz n)) = true) : LD ns := by
 rw [zC] at h
 exact ⟨Ge h.1, fun c hc => by simpa using zD.1 h.2 c hc⟩
def eD (env : Nat → Option D) : List (Nat × D) → List (Option D)
 | [] => []
 | (s, _) :: ps => env s :: eD env ps
def ek (f : Nat → Nat) : List (Nat × D) → List (Option D)
 | [] => []
 | (_, d) :: ps => some (d.ren f) :: ek f ps
def d8 (f : Nat → Nat) (bx : Nat → Option B8) : List (Nat × B8) → List (Option B8)
 | [] => []
 | (b, _) :: ps => bx (f b) :: d8 f bx ps
def d9 (f : Nat → Nat) : List (Nat × B8) → List (Option B8)
 | [] => []
 | (_, k) :: ps => some (k.ren f) :: d9 f ps
theorem YQ {f : Nat → Nat} {env : Nat → Option D} : ∀ {el : List (Nat × D)}, eD env el = ek f el → Vy f env el
 | [], _ => trivial
 | (s, d) :: el, h => by
  simp only [eD, ek] at h
  obtain ⟨h1, h2⟩ := List.cons.inj h
  exact ⟨h1, YQ h2⟩
theorem WU {f : Nat → Nat} {bx : Nat → Option B8} : ∀ {el : List (Nat × B8)}, d8 f bx el = d9 f el → VU f bx el
 | [], _ => trivial
 | (s, d) :: el, h => by
  simp only [d8, d9] at h
  obtain ⟨h1, h2⟩ := List.cons.inj h
  exact ⟨h1, WU h2⟩
theorem sm {st : St} (l : List (Nat × Nat)) (el : List (Nat × D)) (bl : List (Nat × B8)) (h : (eD st.env el, d8 (rn l) st.bx bl) = (ek (rn l) el, d9 (rn l) bl)) (hi : ((Jx ((FX bl).map (rn l)) && OD (rn l) (FX bl)) && (RF (FX bl) el && Rm (FX bl) bl)) = true) : Hh P X st (mk el bl) :=
 XP (rn l) el bl (YQ (t2 h).1) (WU (t2 h).2) (xX.1 hi).1 (xX.1 hi).2
section run
variable {dr : Bool} {Q : St → Prop} {r i : Nat} {st : St} {log : List (Nat × C6)} {gs : List (Operand × D)}
theorem qm {x : Operand} {d : D} {s : Nat} (h : (hd st.env ops i X.n, opd st.env x) = (some (.move x, s, gs), some d)) (next : Nx P X ops dr Q r i st log ⟨gs ++ [(x, d)], [], some s, some d, [], []⟩) : By P X ops dr Q (r + 1) i st log :=
 bK (DL (t2 h).1) (t2 h).2 next
theorem qa {x : Operand} {d : D} {s : Nat} (h : (hd st.env ops i X.n, opd st.env x) = (some (.assign x, s, gs), some d)) (next : Nx P X ops dr Q r i st log ⟨gs ++ [(x, d)], [], some s, some d, [], []⟩) : By P X ops dr Q (r + 1) i st log :=
 Ya (DL (t2 h).1) (t2 h).2 next
theorem qn {j t s : Nat} {want : Bool} (h : (cj ops i X.n, st.env t) = (some (j, s, t, want), some (bD (!want)))) (next : Nx P X ops dr Q r i st log ⟨[(.tmp t, bD (!want))], [], some s, some uD, [], []⟩) : By P X ops dr Q (r + 1) i st log :=
 cN (t2 h).1 (t2 h).2 next
theorem qu {j t s : Nat} {want : Bool} (h : (cj ops i X.n, st.env t) = (some (j, s, t, want), some uD)) (next : Nx P X ops dr Q r i st log ⟨[(.tmp t, uD)], [], some s, some uD, [], []⟩) : By P X ops dr Q (r + 1) i st log :=
 cE (t2 h).1 (t2 h).2 next
theorem qp {c x y : Operand} {b : Bool} {d : D} {z : Operand} {s : Nat} (h : (hd st.env ops i X.n, opd st.env c, (if b then x else y), opd st.env z) = (some (.pick c x y, s, gs), some (bD b), z, some d)) (next : Nx P X ops dr Q r i st log ⟨gs ++ [(c, bD b), (z, d)], [], some s, some d, [], []⟩) : By P X ops dr Q (r + 1) i st log :=
 bX (DL (t2 h).1) (t2 (t2 h).2).1 (t2 (t2 (t2 h).2).2).1 (t2 (t2 (t2 h).2).2).2 next
theorem qf {x : Operand} {b k f off s : Nat} {t : TypeId} (hf : Ba P t f off = true) (h : (hd st.env ops i X.n, opd st.env x) = (some (.fieldAddr t x f, s, gs), some (.e (.one (.ptr b k))))) (next : Nx P X ops dr Q r i st log ⟨gs ++ [(x, .e (.one (.ptr b k)))], [], some s, some (.e (.one (.ptr b (k + off)))), [], []⟩) : By P X ops dr Q (r + 1) i st log :=
 Te (DL (t2 h).1) (t2 h).2 hf next
theorem qg {x : Operand} {ts us : List T} {f off s : Nat} {t : TypeId} (hf : Ba P t f off = true) (h : (hd st.env ops i X.n, opd st.env x, xQ (off) (ts.length), ts.drop off) = (some (.fieldAddr t x f, s, gs), some (.e (.one (.rop ts))), true, us)) (next : Nx P X ops dr Q r i st log ⟨gs ++ [(x, .e (.one (.rop ts)))], [], some s, some (.e (.one (.rop us))), [], []⟩) : By P X ops dr Q (r + 1) i st log :=
 Sk (DL (t2 h).1) (t2 (t2 h).2).1 hf (yH (t2 (t2 (t2 h).2).2).1) (t2 (t2 (t2 h).2).2).2 next
theorem qh {x : Operand} {b e ix k f off s : Nat} {t : TypeId} (hf : Ba P t f off = true) (h : (hd st.env ops i X.n, opd st.env x) = (some (.fieldAddr t x f, s, gs), some (.e (.one (.eptr b e ix k))))) (next : Nx P X ops dr Q r i st log ⟨gs ++ [(x, .e (.one (.eptr b e ix k)))], [], some s, some (.e (.one (.eptr b e ix (k + off)))), [], []⟩) : By P X ops dr Q (r + 1) i st log :=
 Sa (DL (t2 h).1) (t2 h).2 hf next
theorem ql {x : Operand} {b k s : Nat} {cells : List C} {c : C} {t : TypeId} (ht : E4 P t false = true) (h : (hd st.env ops i X.n, opd st.env x, st.bx b, cells[k]?) = (some (.load t x, s, gs), some (.e (.one (.ptr b k))), some (.box cells), some c)) (next : Nx P X ops dr Q r i st log ⟨gs ++ [(x, .e (.one (.ptr b k)))], [(b, .box cells)], some s, some (.e (.one c)), [], []⟩) : By P X ops dr Q (r + 1) i st log :=
 Zk (DL (t2 h).1) (t2 (t2 h).2).1 ht (t2 (t2 (t2 h).2).2).1 (t2 (t2 (t2 h).2).2).2 next
theorem qL {x : Operand} {b k n s : Nat} {cells cs : List C} {t : TypeId} (ht : E4 P t true = true) (hz : Hn P t n = true) (h : (hd st.env ops i X.n, opd st.env x, st.bx b, (cells.drop k).take n, cs.length) = (some (.load t x, s, gs), some (.e (.one (.ptr b k))), some (.box cells), cs, n)) (next : Nx P X ops dr Q r i st log ⟨gs ++ [(x, .e (.one (.ptr b k)))], [(b, .box cells)], some s, some (.e (.agg cs)), [], []⟩) : By P X ops dr Q (r + 1) i st log :=
 au (DL (t2 h).1) (t2 (t2 h).2).1 ht hz (t2 (t2 (t2 h).2).2).1 (t2 (t2 (t2 (t2 h).2).2).2).1 (t2 (t2 (t2 (t2 h).2).2).2).2 next
theorem qk {x : Operand} {s : Nat} {ts : List T} {u : T} {t : TypeId} (ht : E4 P t false = true) (h : (hd st.env ops i X.n, opd st.env x, ts[0]?) = (some (.load t x, s, gs), some (.e (.one (.rop ts))), some u)) (next : Nx P X ops dr Q r i st log ⟨gs ++ [(x, .e (.one (.rop ts)))], [], some s, some (one u), [], []⟩) : By P X ops dr Q (r + 1) i st log :=
 XJ (DL (t2 h).1) (t2 (t2 h).2).1 ht (t2 (t2 h).2).2 next
theorem qK {x : Operand} {s n : Nat} {ts us : List T} {t : TypeId} (ht : E4 P t true = true) (hz : Hn P t n = true) (h : (hd st.env ops i X.n, opd st.env x, ts.take n, us.length) = (some (.load t x, s, gs), some (.e (.one (.rop ts))), us, n)) (next : Nx P X ops dr Q r i st log ⟨gs ++ [(x, .e (.one (.rop ts)))], [], some s, some (.e (.agg (us.map C.pure))), [], []⟩) : By P X ops dr Q (r + 1) i st log :=
 XU (DL (t2 h).1) (t2 (t2 h).2).1 ht hz (t2 (t2 (t2 h).2).2).1 (t2 (t2 (t2 h).2).2).2 next
theorem qx {x : Operand} {xs : List E} {y : E} {k s : Nat} (h : (hd st.env ops i X.n, opd st.env x, xs[k]?) = (some (.extract x k, s, gs), some (.tup xs), some y)) (next : Nx P X ops dr Q r i st log ⟨gs ++ [(x, .tup xs)], [], some s, some (.e y), [], []⟩) : By P X ops dr Q (r + 1) i st log :=
 WF (DL (t2 h).1) (t2 (t2 h).2).1 (t2 (t2 h).2).2 next
theorem qb {x : Operand} {y : E} {s : Nat} {el : TypeId} (h : (hd st.env ops i X.n, opd st.env x, st.bx s) = (some (.box el x, s, gs), some (.e y), none)) (next : Nx P X ops dr Q r i st log ⟨gs ++ [(x, .e y)], [], some s, some (.e (.one (.ptr s 0))), [(s, .box y.cells)], [s]⟩) : By P X ops dr Q (r + 1) i st log :=
 d3 (DL (t2 h).1) (t2 (t2 h).2).1 (t2 (t2 h).2).2 next
theorem qz {z : Value} {zs : List Value} {s : Nat} {el : TypeId} (hz : DH P el = some z) (h : (hd st.env ops i X.n, z.cells.toList, zs.all Ig, st.bx s) = (some (.alloc el, s, gs), zs, true, none)) (next : Nx P X ops dr Q r i st log ⟨gs ++ [], [], some s, some (.e (.one (.ptr s 0))), [(s, .box (zs.map fun v => C.pure (T.of v)))], [s]⟩) : By P X ops dr Q (r + 1) i st log :=
 Z2 (DL (t2 h).1) hz (t2 (t2 h).2).1 (t2 (t2 (t2 h).2).2).1 (t2 (t2 (t2 h).2).2).2 next
theorem qs {x y : Operand} {b k n : Nat} {cells cells' : List C} {v : E} {t : TypeId} (hz : Hn P t n = true) (h : (We ops i, opd st.env x, opd st.env y, st.bx b, v.cells.length, xQ (k + n) (cells.length), Kw cells k v.cells) = (some (.store t x y), some (.e (.one (.ptr b k))), some (.e v), some (.box cells), n, true, cells')) (next : Nx P X ops dr Q r i st log ⟨[(x, .e (.one (.ptr b k))), (y, .e v)], [(b, .box cells)], none, none, [(b, .box cells')], []⟩) : By P X ops dr Q (r + 1) i st log :=
 Z0 (t2 h).1 (t2 (t2 h).2).1 (t2 (t2 (t2 h).2).2).1 (t2 (t2 (t2 (t2 h).2).2).2).1 hz (t2 (t2 (t2 (t2 (t2 h).2).2).2).2).1 (yH (t2 (t2 (t2 (t2 (t2 (t2 h).2).2).2).2).2).1) (t2 (t2 (t2 (t2 (t2 (t2 h).2).2).2).2).2).2 next
theorem qi {x y : Operand} {s e : Nat} {rows : List (List T)} {row : List T} {t el : TypeId} {k : IntKind} {n : Int} (ht : sliceB P t el = true) (hz : Hn P el e = true) (h0 : 0 ≤ n) (hrow : rows[n.toNat]? = some row) (h : (hd st.env ops i X.n, opd st.env x, opd st.env y, row.length) = (some (.indexAddr t x y, s, gs), some (one (.sl rows)), some (vD (.int k n)), e)) (next : Nx P X ops dr Q r i st log ⟨gs ++ [(x, one (.sl rows)), (y, vD (.int k n))], [], some s, some (.e (.one (.rop row))), [], []⟩) : By P X ops dr Q (r + 1) i st log :=
 Zo (DL (t2 h).1) (t2 (t2 h).2).1 (t2 (t2 (t2 h).2).2).1 ht hz h0 hrow (t2 (t2 (t2 h).2).2).2 next
theorem qI {x y : Operand} {s e b : Nat} {rows : List (List T)} {row : List T} {t el : TypeId} {k : IntKind} {n : Int} (ht : sliceB P t el = true) (hz : Hn P el e = true) (h0 : 0 ≤ n) (hrow : rows[n.toNat]? = some row) (h : (hd st.env ops i X.n, opd st.env x, opd st.env y, st.bx b) = (some (.indexAddr t x y, s, gs), some (.e (.one (.own b))), some (vD (.int k n)), some (.vec e rows))) (next : Nx P X ops dr Q r i st log ⟨gs ++ [(x, .e (.one (.own b))), (y, vD (.int k n))], [(b, .vec e rows)], some s, some (.e (.one (.eptr b e n.toNat 0))), [], []⟩) : By P X ops dr Q (r + 1) i st log :=
 Pu (DL (t2 h).1) (t2 (t2 h).2).1 (t2 (t2 (t2 h).2).2).1 (t2 (t2 (t2 h).2).2).2 ht hz h0 hrow next
theorem qj {x : Operand} {b e ix k s : Nat} {rows : List (List T)} {row : List T} {u : T} {t : TypeId} (ht : E4 P t false = true) (hrow : rows[ix]? = some row) (h : (hd st.env ops i X.n, opd st.env x, st.bx b, row[k]?) = (some (.load t x, s, gs), some (.e (.one (.eptr b e ix k))), some (.vec e rows), some u)) (next : Nx P X ops dr Q r i st log ⟨gs ++ [(x, .e (.one (.eptr b e ix k)))], [(b, .vec e rows)], some s, some (one u), [], []⟩) : By P X ops dr Q (r + 1) i st log :=
 Qc (DL (t2 h).1) (t2 (t2 h).2).1 ht (t2 (t2 (t2 h).2).2).1 hrow (t2 (t2 (t2 h).2).2).2 next
theorem qJ {x : Operand} {b e ix s : Nat} {rows : List (List T)} {row : List T} {t : TypeId} (ht : E4 P t true = true) (hz : Hn P t e = true) (hrow : rows[ix]? = some row) (h : (hd st.env ops i X.n, opd st.env x, st.bx b) = (some (.load t x, s, gs), some (.e (.one (.eptr b e ix 0))), some (.vec e rows))) (next : Nx P X ops dr Q r i st log ⟨gs ++ [(x, .e (.one (.eptr b e ix 0)))], [(b, .vec e rows)], some s, some (.e (.agg (row.map C.pure))), [], []⟩) : By P X ops dr Q (r + 1) i st log :=
 Yo (DL (t2 h).1) (t2 (t2 h).2).1 ht hz (t2 (t2 h).2).2 hrow next
theorem KK {x : Operand} {s b k : Nat} (h : (hd st.env ops i X.n, opd st.env x) = (some (.nilCheck x, s, gs), some (.e (.one (.ptr b k))))) (next : Nx P X ops dr Q r i st log ⟨gs ++ [(x, .e (.one (.ptr b k)))], [], some s, some (.e (.one (.ptr b k))), [], []⟩) : By P X ops dr Q (r + 1) i st log :=
 Ux (DL (t2 h).1) (t2 h).2 next
theorem Bp {k : IntKind} {xt yt : TypeId} {x y : Operand} {a b : Int} {s : Nat} (h : (hd st.env ops i X.n, opd st.env x, opd st.env y) = (some (.binOp .add xt x y yt, s, gs), some (vD (.int k a)), some (vD (.int k b)))) (next : Nx P X ops dr Q r i st log ⟨gs ++ [(x, vD (.int k a)), (y, vD (.int k b))], [], some s, some (vD (.int k (k.wrap (a + b)))), [], []⟩) : By P X ops dr Q (r + 1) i st log :=
 FM (DL (t2 h).1) (t2 (t2 h).2).1 (t2 (t2 h).2).2 (Zf _ _ _ _ _ _) rfl next
theorem Kx {k : IntKind} {xt yt : TypeId} {x y : Operand} {a b : Int} {s : Nat} (h : (hd st.env ops i X.n, opd st.env x, opd st.env y) = (some (.binOp .sub xt x y yt, s, gs), some (vD (.int k a)), some (vD (.int k b)))) (next : Nx P X ops dr Q r i st log ⟨gs ++ [(x, vD (.int k a)), (y, vD (.int k b))], [], some s, some (vD (.int k (k.wrap (a - b)))), [], []⟩) : By P X ops dr Q (r + 1) i st log :=
 FM (DL (t2 h).1) (t2 (t2 h).2).1 (t2 (t2 h).2).2 (Y3 _ _ _ _ _ _) rfl next
theorem MN {k : IntKind} {xt yt : TypeId} {x y : Operand} {a b : Int} {s : Nat} (h : (hd st.env ops i X.n, opd st.env x, opd st.env y) = (some (.binOp .mul xt x y yt, s, gs), some (vD (.int k a)), some (vD (.int k b)))) (next : Nx P X ops dr Q r i st log ⟨gs ++ [(x, vD (.int k a)), (y, vD (.int k b))], [], some s, some (vD (.int k (k.wrap (a * b)))), [], []⟩) : By P X ops dr Q (r + 1) i st log :=
 FM (DL (t2 h).1) (t2 (t2 h).2).1 (t2 (t2 h).2).2 (Zr _ _ _ _ _ _) rfl next
theorem AN {k : IntKind} {xt yt : TypeId} {x y : Operand} {a b : Int} {s : Nat} (h : (hd st.env ops i X.n, opd st.env x, opd st.env y) = (some (.binOp .eql xt x y yt, s, gs), some (vD (.int k a)), some (vD (.int k b)))) (next : Nx P X ops dr Q r i st log ⟨gs ++ [(x, vD (.int k a)), (y, vD (.int k b))], [], some s, some (vD (.bool (a == b))), [], []⟩) : By P X ops dr Q (r + 1) i st log :=
 FM (DL (t2 h).1) (t2 (t2 h).2).1 (t2 (t2 h).2).2 (ZS _ _ _ _ _ _) rfl next
theorem BH {k : IntKind} {xt yt : TypeId} {x y : Operand} {a b : Int} {s : Nat} (h : (hd st.env ops i X.n, opd st.env x, opd st.env y) = (some (.binOp .neq xt x y yt, s, gs), some (vD (.int k a)), some (vD (.int k b)))) (next : Nx P X ops dr Q r i st log ⟨gs ++ [(x, vD (.int k a)), (y, vD (.int k b))], [], some s, some (vD (.bool (a != b))), [], []⟩) : By P X ops dr Q (r + 1) i st log :=
 FM (DL (t2 h).1) (t2 (t2 h).2).1 (t2 (t2 h).2).2 (aj _ _ _ _ _ _) rfl next
theorem A9 {k : IntKind} {xt yt : TypeId} {x y : Operand} {a b : Int} {s : Nat} (h : (hd st.env ops i X.n, opd st.env x, opd st.env y) = (some (.binOp .lss xt x y yt, s, gs), some (vD (.int k a)), some (vD (.int k b)))) (next : Nx P X ops dr Q r i st log ⟨gs ++ [(x, vD (.int k a)), (y, vD (.int k b))], [], some s, some (vD (.bool (decide (a < b)))), [], []⟩) : By P X ops dr Q (r + 1) i st log :=
 FM (DL (t2 h).1) (t2 (t2 h).2).1 (t2 (t2 h).2).2 (ap _ _ _ _ _ _) rfl next
theorem TR {k : IntKind} {xt yt : TypeId} {x y : Operand} {a b : Int} {s : Nat} (h : (hd st.env ops i X.n, opd st.env x, opd st.env y) = (some (.binOp .leq xt x y yt, s, gs), some (vD (.int k a)), some (vD (.int k b)))) (next : Nx P X ops dr Q r i st log ⟨gs ++ [(x, vD (.int k a)), (y, vD (.int k b))], [], some s, some (vD (.bool (decide (a ≤ b)))), [], []⟩) : By P X ops dr Q (r + 1) i st log :=
 FM (DL (t2 h).1) (t2 (t2 h).2).1 (t2 (t2 h).2).2 (ac _ _ _ _ _ _) rfl next
theorem FQ {k : IntKind} {xt yt : TypeId} {x y : Operand} {a b : Int} {s : Nat} (h : (hd st.env ops i X.n, opd st.env x, opd st.env y) = (some (.binOp .gtr xt x y yt, s, gs), some (vD (.int k a)), some (vD (.int k b)))) (next : Nx P X ops dr Q r i st log ⟨gs ++ [(x, vD (.int k a)), (y, vD (.int k b))], [], some s, some (vD (.bool (decide (b < a)))), [], []⟩) : By P X ops dr Q (r + 1) i st log :=
 FM (DL (t2 h).1) (t2 (t2 h).2).1 (t2 (t2 h).2).2 (ZZ _ _ _ _ _ _) rfl next
theorem Eh {k : IntKind} {xt yt : TypeId} {x y : Operand} {a b : Int} {s : Nat} (h : (hd st.env ops i X.n, opd st.env x, opd st.env y) = (some (.binOp .geq xt x y yt, s, gs), some (vD (.int k a)), some (vD (.int k b)))) (next : Nx P X ops dr Q r i st log ⟨gs ++ [(x, vD (.int k a)), (y, vD (.int k b))], [], some s, some (vD (.bool (decide (b ≤ a)))), [], []⟩) : By P X ops dr Q (r + 1) i st log :=
 FM (DL (t2 h).1) (t2 (t2 h).2).1 (t2 (t2 h).2).2 (Zh _ _ _ _ _ _) rfl next
theorem RM {k : IntKind} {xt yt : TypeId} {x y : Operand} {a b : Int} {s : Nat} (h : (hd st.env ops i X.n, opd st.env x, opd st.env y) = (some (.binOp .and xt x y yt, s, gs), some (vD (.int k a)), some (vD (.int k b)))) (next : Nx P X ops dr Q r i st log ⟨gs ++ [(x, vD (.int k a)), (y, vD (.int k b))], [], some s, some (vD (.int k (Ho k a b))), [], []⟩) : By P X ops dr Q (r + 1) i st log :=
 FM (DL (t2 h).1) (t2 (t2 h).2).1 (t2 (t2 h).2).2 (ZK _ _ _ _ _ _) rfl next
theorem Yx {k : IntKind} {xt yt : TypeId} {x y : Operand} {a b : Int} {s : Nat} (h : (hd st.env ops i X.n, opd st.env x, opd st.env y) = (some (.binOp .or xt x y yt, s, gs), some (vD (.int k a)), some (vD (.int k b)))) (next : Nx P X ops dr Q r i st log ⟨gs ++ [(x, vD (.int k a)), (y, vD (.int k b))], [], some s, some (vD (.int k (Pb k a b))), [], []⟩) : By P X ops dr Q (r + 1) i st log :=
 FM (DL (t2 h).1) (t2 (t2 h).2).1 (t2 (t2 h).2).2 (bE _ _ _ _ _ _) rfl next
theorem Js {k : IntKind} {xt yt : TypeId} {x y : Operand} {a b : Int} {s : Nat} (h : (hd st.env ops i X.n, opd st.env x, opd st.env y) = (some (.binOp .andNot xt x y yt, s, gs), some (vD (.int k a)), some (vD (.int k b)))) (next : Nx P X ops dr Q r i st log ⟨gs ++ [(x, vD (.int k a)), (y, vD (.int k b))], [], some s, some (vD (.int k (Dy k a b))), [], []⟩) : By P X ops dr Q (r + 1) i st log :=
 FM (DL (t2 h).1) (t2 (t2 h).2).1 (t2 (t2 h).2).2 (UJ _ _ _ _ _ _) rfl next
theorem Kt {k k' : IntKind} {xt yt : TypeId} {x y : Operand} {a b : Int} {s : Nat} (h : (hd st.env ops i X.n, opd st.env x, opd st.env y) = (some (.binOp .shl xt x y yt, s, gs), some (vD (.int k a)), some (vD (.int k' b)))) (hc : 0 ≤ b) (next : Nx P X ops dr Q r i st log ⟨gs ++ [(x, vD (.int k a)), (y, vD (.int k' b))], [], some s, some (vD (.int k (EK k a b))), [], []⟩) : By P X ops dr Q (r + 1) i st log :=
 FM (DL (t2 h).1) (t2 (t2 h).2).1 (t2 (t2 h).2).2 (ZI _ _ _ _ _ _ _ hc) rfl next
theorem L6 {k k' : IntKind} {xt yt : TypeId} {x y : Operand} {a b : Int} {s : Nat} (h : (hd st.env ops i X.n, opd st.env x, opd st.env y) = (some (.binOp .shr xt x y yt, s, gs), some (vD (.int k a)), some (vD (.int k' b)))) (hc : 0 ≤ b) (next : Nx P X ops dr Q r i st log ⟨gs ++ [(x, vD (.int k a)), (y, vD (.int k' b))], [], some s, some (vD (.int k (Gy k a b))), [], []⟩) : By P X ops dr Q (r + 1) i st log :=
 FM (DL (t2 h).1) (t2 (t2 h).2).1 (t2 (t2 h).2).2 (af _ _ _ _ _ _ _ hc) rfl next
theorem H3 {k : IntKind} {xt yt : TypeId} {x y : Operand} {a b : Int} {s : Nat} (h : (hd st.env ops i X.n, opd st.env x, opd st.env y) = (some (.binOp .rem xt x y yt, s, gs), some (vD (.int k a)), some (vD (.int k b)))) (hc : b ≠ 0) (next : Nx P X ops dr Q r i st log ⟨gs ++ [(x, vD (.int k a)), (y, vD (.int k b))], [], some s, some (vD (.int k (a.tmod b))), [], []⟩) : By P X ops dr Q (r + 1) i st log :=
 FM (DL (t2 h).1) (t2 (t2 h).2).1 (t2 (t2 h).2).2 (ai _ _ _ _ _ _ hc) rfl next
theorem VO {k : IntKind} {xt yt : TypeId} {x y : Operand} {a b : Int} {s : Nat} (h : (hd st.env ops i X.n, opd st.env x, opd st.env y) = (some (.binOp .quo xt x y yt, s, gs), some (vD (.int k a)), some (vD (.int k b)))) (hc : b ≠ 0) (next : Nx P X ops dr Q r i st log ⟨gs ++ [(x, vD (.int k a)), (y, vD (.int k b))], [], some s, some (vD (.int k (k.wrap (a.tdiv b)))), [], []⟩) : By P X ops dr Q (r + 1) i st log :=
 FM (DL (t2 h).1) (t2 (t2 h).2).1 (t2 (t2 h).2).2 (ZU _ _ _ _ _ _ hc) rfl next
theorem CL {xt : TypeId} {x : Operand} {b : Bool} {s : Nat} (h : (hd st.env ops i X.n, opd st.env x) = (some (.unOp .not xt x, s, gs), some (bD b))) (next : Nx P X ops dr Q r i st log ⟨gs ++ [(x, bD b)], [], some s, some (vD (.bool (!b))), [], []⟩) : By P X ops dr Q (r + 1) i st log :=
 f5 (DL (t2 h).1) (t2 h).2 (ca _) rfl next
theorem JN {xt yt : TypeId} {k k' : IntKind} {x : Operand} {a : Int} {s : Nat} (hs : (P.underlying xt).isSome = true) (ht : QJ P yt k = true) (h : (hd st.env ops i X.n, opd st.env x) = (some (.convert xt yt x, s, gs), some (vD (.int k' a)))) (next : Nx P X ops dr Q r i st log ⟨gs ++ [(x, vD (.int k' a))], [], some s, some (vD (.int k (k.wrap a))), [], []⟩) : By P X ops dr Q (r + 1) i st log :=
 cp (DL (t2 h).1) (t2 h).2 (XC hs ht _ _) rfl next
theorem AU {α : Type} {f : α → List T} {xs : List α} {x : Operand} {s : Nat} {t el : TypeId} (ht : sliceB P t el = true) (h : (hd st.env ops i X.n, opd st.env x) = (some (.call ⟨.builtin .len, #[x], #[t]⟩, s, gs), some (one (.sl (xs.map f))))) (next : Nx P X ops dr Q r i st log ⟨gs ++ [(x, one (.sl (xs.map f)))], [], some s, some (vD (.int .i64 (xs.length : Int))), [], []⟩) : By P X ops dr Q (r + 1) i st log :=
 aZ (DL (t2 h).1) (t2 h).2 (.sl _) trivial (zU _) ht next
theorem GG {α : Type} {f : α → List T} {xs : List α} {x : Operand} {s b e : Nat} {t el : TypeId} (ht : sliceB P t el = true) (h : (hd st.env ops i X.n, opd st.env x, st.bx b) = (some (.call ⟨.builtin .len, #[x], #[t]⟩, s, gs), some (.e (.one (.own b))), some (.vec e (xs.map f)))) (next : Nx P X ops dr Q r i st log ⟨gs ++ [(x, .e (.one (.own b)))], [(b, .vec e (xs.map f))], some s, some (vD (.int .i64 (xs.length : Int))), [], []⟩) : By P X ops dr Q (r + 1) i st log :=
 aZ (DL (t2 h).1) (t2 (t2 h).2).1 (.own _ _ _) ⟨(t2 (t2 h).2).2, trivial⟩ (zU _) ht next
theorem AS {t : TypeId} {s : Nat} {z : Value} {zs : List Value} {pl : List (Nat × Nat)} {cells : List C} {parts : Array (Nat × Operand)} {ps : List (Nat × Operand × E)} (hz : DH P t = some z) (hpl : FH P t = some pl) (h : (hd st.env ops i X.n, cR st.env parts.toList, z.cells.toList, zs.all Ig, MR (pl[·]?) (zs.map fun v => C.pure (T.of v)) (ps.map fun p => (p.1, p.2.2))) = (some (.build t parts, s, gs), some ps, zs, true, some cells)) (next : Nx P X ops dr Q r i st log ⟨gs ++ Ie ps, [], some s, some (.e (.agg cells)), [], []⟩) : By P X ops dr Q (r + 1) i st log :=
 have q := X0 (t2 (t2 h).2).1
 Zb ps (DL (t2 h).1) (by rw [← q.1]) q.2 hz (t2 (t2 (t2 h).2).2).1 (t2 (t2 (t2 (t2 h).2).2).2).1 hpl (t2 (t2 (t2 (t2 h).2).2).2).2 next
theorem EB {t el : TypeId} {s n e : Nat} {z : Value} {rows : List (List T)} {parts : Array (Nat × Operand)} {ps : List (Nat × Operand × E)} (ht : sliceB P t el = true) (he : Hn P el e = true) (hz : DH P el = some z) (h : (hd st.env ops i X.n, cR st.env parts.toList, st.bx s, ZH 0 ps, ps.length, xQ (n * e) 16777216, (ps.map fun p => (p.1, p.2.2)).mapM (fun p => p.2.ts), rows.all (fun row => row.length == e)) = (some (.buildSlice t n parts, s, gs), some ps, none, true, n, true, some rows, true)) (next : Nx P X ops dr Q r i st log ⟨gs ++ Ie ps, [], some s, some (.e (.one (.own s))), [(s, .vec e rows)], [s]⟩) : By P X ops dr Q (r + 1) i st log :=
 have q := X0 (t2 (t2 h).2).1
 have g := (t2 (t2 (t2 h).2).2).2
 Ss ps (DL (t2 h).1) (by rw [← q.1]) q.2 (t2 (t2 (t2 h).2).2).1 ht he hz (VR (t2 g).1) (t2 (t2 g).2).1 (yH (t2 (t2 (t2 g).2).2).1) (t2 (t2 (t2 (t2 g).2).2).2).1 (t2 (t2 (t2 (t2 g).2).2).2).2 next
theorem Av {f s : Nat} {xs : List Operand} {ds0 ds : List D} {rv : List (Nat × List (List T))} {res : D} {ts : Array TypeId} (ns : List Nat) (hc : Au P f ds rv res) (hf : AE P f = true) (h : (hd st.env ops i X.n, XG st.env xs, ds0.map D.nrm, ds.all Ua, ns.length, Jx ns && (ns.all fun n => !Cz n), ns.all (fun n => gm (st.bx n)), res.names.all (fun b => decide (b < rv.length))) = (some (.call ⟨.value (.func f), xs.toArray, ts⟩, s, gs), some ds0, ds, true, rv.length, true, true, true)) (next : Nx P X ops dr Q r i st log ⟨gs ++ IB xs ds0, [], some s, some (res.ren (nm ns)), JW ns rv, ns⟩) : By P X ops dr Q (r + 1) i st log :=
 have q := R9 (t2 (t2 h).2).1
 have g := (t2 (t2 (t2 h).2).2).2
 ct ns hc (DL (t2 h).1) hf q.1 q.2 (t2 (t2 (t2 h).2).2).1 (t2 g).1 (t2 (t2 g).2).1 (Rc (t2 (t2 (t2 g).2).2).1) (SE (t2 (t2 (t2 (t2 g).2).2).2).1) (t2 (t2 (t2 (t2 g).2).2).2).2 next
theorem FN {f s : Nat} {xs : List Operand} {ds0 ds : List D} {rv : List (Nat × List (List T))} {res : D} {ts : Array TypeId} {bs : List (Nat × B8)} (ns lb : List Nat) (hc : Au P f ds rv res) (hf : AE P f = true) (hfv : Ue rv) (h : (hd st.env ops i X.n, XG st.env xs, fy st.bx lb, ds0.map (fun d => (d.lend bs).nrm), ds.all Ua, ns.length, Jx ns && (ns.all fun n => !Cz n), ns.all (fun n => gm (st.bx n)), res.flat, res.names.all (fun b => decide (b < rv.length))) = (some (.call ⟨.value (.func f), xs.toArray, ts⟩, s, gs), some ds0, some bs, ds, true, rv.length, true, true, true, true)) (next : Nx P X ops dr Q r i st log ⟨gs ++ IB xs ds0, bs, some s, some (res.ren (nm ns)), JW ns rv, ns⟩) : By P X ops dr Q (r + 1) i st log :=
 have q := R9 (t2 (t2 h).2).1
 have g := (t2 (t2 (t2 h).2).2).2
 have g2 := (t2 (t2 (t2 g).2).2).2
 Zs ns bs hc (DL (t2 h).1) hf q.1 q.2 (YT (t2 (t2 (t2 h).2).2).1) (t2 g).1 (t2 (t2 g).2).1 (t2 (t2 (t2 g).2).2).1 (Rc (t2 g2).1) (SE (t2 (t2 g2).2).1) (t2 (t2 (t2 g2).2).2).1 hfv (t2 (t2 (t2 g2).2).2).2 next
theorem EL {α : Type} {f : α → List T} {xs : List α} {ys : List α} {x y : Operand} {t t2' el el2 s e bytes b b2 : Nat} {z : Value} (ht : sliceB P t el = true) (ht2 : sliceB P t2' el2 = true) (he : Hn P el e = true) (hby : F6 P el bytes = true) (hz : DH P el = some z) (hlim : xs.length + ys.length ≤ EI) (h : (hd st.env ops i X.n, opd st.env x, st.bx b, opd st.env y, st.bx b2, st.bx s, z.cells.size, xQ bytes 4096, [b].all (fun b => !Cz b)) = (some (.call ⟨.builtin .append, #[x, y], #[t, t2']⟩, s, gs), some (.e (.one (.own b))), some (.vec e (xs.map f)), some (.e (.one (.own b2))), some (.vec e (ys.map f)), none, e, true, true)) (next : Nx P X ops dr Q r i st log ⟨gs ++ [(x, .e (.one (.own b))), (y, .e (.one (.own b2)))], [(b, .vec e (xs.map f))] ++ [(b2, .vec e (ys.map f))], some s, some (.e (.one (.own s))), (s, .vec e ((xs ++ ys).map f)) :: Lj [b], [s]⟩) : By P X ops dr Q (r + 1) i st log :=
 TI (DL (t2 h).1) (t2 (t2 h).2).1 (.own _ _ _) ⟨(t2 (t2 (t2 h).2).2).1, trivial⟩ (t2 (t2 (t2 (t2 h).2).2).2).1 (.own _ _ _) ⟨(t2 (t2 (t2 (t2 (t2 h).2).2).2).2).1, trivial⟩ (t2 (t2 (t2 (t2 (t2 (t2 h).2).2).2).2).2).1 ht ht2 he hby (yH (t2 (t2 (t2 (t2 (t2 (t2 (t2 (t2 h).2).2).2).2).2).2).2).1) hz (t2 (t2 (t2 (t2 (t2 (t2 (t2 h).2).2).2).2).2).2).1 (by simpa using hlim) (by simp) (t2 (t2 (t2 (t2 (t2 (t2 (t2 (t2 h).2).2).2).2).2).2).2).2 next
theorem K8 {α : Type} {f : α → List T} {xs : List α} {ys : List α} {x y : Operand} {t t2' el el2 s e bytes b : Nat} {z : Value} (ht : sliceB P t el = true) (ht2 : sliceB P t2' el2 = true) (he : Hn P el e = true) (hby : F6 P el bytes = true) (hz : DH P el = some z) (hf : ∀ x, (f x).length = e) (hlim : xs.length + ys.length ≤ EI) (h : (hd st.env ops i X.n, opd st.env x, st.bx b, opd st.env y, st.bx s, z.cells.size, xQ bytes 4096, [b].all (fun b => !Cz b)) = (some (.call ⟨.builtin .append, #[x, y], #[t, t2']⟩, s, gs), some (.e (.one (.own b))), some (.vec e (xs.map f)), some (one (.sl (ys.map f))), none, e, true, true)) (next : Nx P X ops dr Q r i st log ⟨gs ++ [(x, .e (.one (.own b))), (y, one (.sl (ys.map f)))], [(b, .vec e (xs.map f))] ++ [], some s, some (.e (.one (.own s))), (s, .vec e ((xs ++ ys).map f)) :: Lj [b], [s]⟩) : By P X ops dr Q (r + 1) i st log :=
 TI (DL (t2 h).1) (t2 (t2 h).2).1 (.own _ _ _) ⟨(t2 (t2 (t2 h).2).2).1, trivial⟩ (t2 (t2 (t2 (t2 h).2).2).2).1 (.sl _ _ (L5 hf _)) trivial (t2 (t2 (t2 (t2 (t2 h).2).2).2).2).1 ht ht2 he hby (yH (t2 (t2 (t2 (t2 (t2 (t2 (t2 h).2).2).2).2).2).2).1) hz (t2 (t2 (t2 (t2 (t2 (t2 h).2).2).2).2).2).1 (by simpa using hlim) (by simp) (t2 (t2 (t2 (t2 (t2 (t2 (t2 h).2).2).2).2).2).2).2 next
end run
end Go.Lift
namespace Go.Lift
open Go.RowKit
variable {P : Program}
def ew (P : Program) : List D → List D → Prop
 | [], [] => True
 | a :: ar, b :: bs => (∀ (w : World) (G : Gh) (v : Value), Ii P w G v a → Ii P w G v b) ∧ ew P ar bs
 | _, _ => False
theorem ew.get : ∀ {ar bs : List D}, ew P ar bs → ar.length = bs.length ∧ ∀ (j : Nat) (b : D), bs[j]? = some b → ∃ a, ar[j]? = some a ∧ ∀ (w : World) (G : Gh) (v : Value), Ii P w G v a → Ii P w G v b
 | [], [], _ => ⟨rfl, fun j b h => by simp at h⟩
 | a :: ar, b :: bs, h => by
  obtain ⟨h1, h2⟩ := ew.get h.2
  refine ⟨by simp [h1], fun j c hj => ?_⟩
  cases j with
  | zero => simp at hj; subst hj; exact ⟨a, rfl, h.1⟩
  | succ j => obtain ⟨a', g1, g2⟩ := h2 j c (by simpa using hj); exact ⟨a', by simpa using g1, g2⟩
theorem E8.weak {f : FuncId} {ds ds' : List D} {lent : List (B8 × B8)} {rv : List B8} {res : D} (h : E8 P f ds lent rv res) (hp : ew P ds' ds) : E8 P f ds' lent rv res := by
 intro w G vs h1 hgk h2 h3 h4 hlen hargs
 obtain ⟨g1, g2⟩ := hp.get
 refine h w G vs h1 hgk h2 h3 h4 (by rw [hlen, g1]) fun j d hj => ?_
 obtain ⟨a, e1, e2⟩ := g2 j d hj
 exact e2 w G _ (hargs j a e1)
end Go.Lift
namespace Go.Lift
open Go.RowKit
variable {P : Program} {X : IT} {ops : Array Oper}
section run
variable {dr : Bool} {Q : St → Prop} {r i : Nat} {st : St} {log : List (Nat × C6)} {gs : List (Operand × D)}
end run
end Go.Lift
namespace Go.Lift
abbrev iC (x : Int) : C := .pure (.val (.int .i64 x))
abbrev sC (l : List (List T)) : C := .pure (.sl l)
abbrev iD (x : Int) : D := .e (.one (.pure (.val (.int .i64 x))))
abbrev pD (t : T) : D := .e (.one (.pure t))
abbrev oD (c : C) : D := .e (.one c)
theorem tv : True := trivial
end Go.Lift
namespace Go.Lift
open Go.RowKit
variable {P : Program} {X : IT} {ops : Array Oper}
section run
variable {dr : Bool} {Q : St → Prop} {r i : Nat} {st : St} {log : List (Nat × C6)} {o : Oper} {gs : List (Operand × D)}
end run
end Go.Lift
namespace Go.Lift
open Go.RowKit
variable {P : Program} {X : IT} {ops : Array Oper}
def nt (b : Nat) (ns : List Nat) (c : Nat) : Nat := if c = 90900 then b else ns.getD c 0
section run
variable {dr : Bool} {Q : St → Prop} {r i : Nat} {st : St} {log : List (Nat × C6)} {o : Oper} {gs : List (Operand × D)}
end run
end Go.Lift
namespace Go.Lift
open Go.RowKit
variable {P : Program} {X : IT} {ops : Array Oper}
end Go.Lift
namespace Go.Lift
open Go.RowKit
variable {P : Program} {X : IT} {ops : Array Oper}
section run
variable {dr : Bool} {Q : St → Prop} {r i : Nat} {st : St} {log : List (Nat × C6)} {o : Oper} {gs : List (Operand × D)}
end run
end Go.Lift
namespace Go.Lift
open Go.RowKit
variable {P : Program} {X : IT} {ops : Array Oper}
section run
variable {dr : Bool} {Q : St → Prop} {r i : Nat} {st : St} {log : List (Nat × C6)} {o : Oper} {gs : List (Operand × D)}
end run
end Go.Lift
namespace Go.Lift
open Go.RowKit
variable {P : Program} {X : IT} {ops : Array Oper}
section run
variable {dr : Bool} {Q : St → Prop} {r i : Nat} {st : St} {log : List (Nat × C6)} {o : Oper} {gs : List (Operand × D)}
end run
end Go.Lift
namespace Go.Lift
open Go.RowKit
variable {P : Program} {X : IT} {ops : Array Oper}
section run
variable {dr : Bool} {Q : St → Prop} {r i : Nat} {st : St} {log : List (Nat × C6)} {o : Oper} {gs : List (Operand × D)}
end run
end Go.Lift
namespace Go.Lift
open Go.RowKit
variable {P : Program} {X : IT}
theorem Bb {α : Type} {c : Operand} {x y : Code} {Q : Exit → St → Prop} {st : St} {b : Bool} {e1 e2 : Option α} {v : α} (h : AL b e1 e2 = some v) (ht : e1 = some v → W P X x Q st) (hf : e2 = some v → W P X y Q st) (hc : opd st.env c = some (bD b) := by exact rfl) : W P X (.cond c x y) Q st :=
 bU hc (fun k => ht (V2 k h)) (fun k => hf (VI k h))
theorem Dc {ops : Array Oper} {dr : Bool} {Q : St → Prop} {r i : Nat} {st : St} {log : List (Nat × C6)} {α : Type} {b : Bool} {e1 e2 : Option α} {v : α} (t : Nat) (h : AL b e1 e2 = some v) (hx : st.env t = some (bD b)) (h1 : e1 = some v → By P X ops dr Q r i (St.put st (some t) (some (bD true))) log) (h2 : e2 = some v → By P X ops dr Q r i (St.put st (some t) (some (bD false))) log) : By P X ops dr Q r i st log :=
 aa hx (fun k => h1 (V2 k h)) (fun k => h2 (VI k h))
theorem sn {V R : Type} {J : V → Option R} {r : R} {S : V → St} {s : St} {v : V} {el : List (Nat × D)} {bl : List (Nat × B8)} (l : List (Nat × Nat)) (h : J v = some r) (e : S v = mk el bl := by exact rfl) (h1 : (eD s.env el, d8 (rn l) s.bx bl) = (ek (rn l) el, d9 (rn l) bl) := by exact rfl) (h2 : ((Jx ((FX bl).map (rn l)) && OD (rn l) (FX bl)) && (RF (FX bl) el && Rm (FX bl) bl)) = true := by exact rfl) : ∃ v, J v = some r ∧ Hh P X s (S v) :=
 ⟨v, h, e ▸ sm l el bl h1 h2⟩
theorem gv {y : Code} {id : Nat} {ops : Array Oper} {dr : Bool} {Q : Exit → St → Prop} {st : St} {n : Nat} (hm : P.follows .mixedOrders = true) (hn : ops.size = n)
  (h : By P X ops dr (fun st' => W P X y Q st') n 0 st []) : W P X (.seq (.region id ops dr) y) Q st :=
 A5 (Ai hm hn h)
theorem BY {G : Prop} {α β : Type} {xs : List α} {i : Int} {f : α → Option β} {r : β} (h : (Bg xs i).bind f = some r) (k : ∀ x, 0 ≤ i → xs[i.toNat]? = some x → f x = some r → G) : G := by
 obtain ⟨x, a, b, c⟩ := WT h
 exact k x a b c
theorem BF {G : Prop} {α β : Type} {x : Option α} {f : α → Option β} {r : β} (h : x.bind f = some r) (k : ∀ a, x = some a → f a = some r → G) : G := by
 obtain ⟨a, b, c⟩ := bind_some h
 exact k a b c
theorem GJ {G : Prop} {β : Type} {p : Prop} [Decidable p] {f : Unit → Option β} {r : β} (h : (ES p).bind f = some r) (k : p → f () = some r → G) : G := k (JC h).1 (JC h).2
section
variable {ops : Array Oper} {dr : Bool} {Q : St → Prop} {r i : Nat} {st : St} {log : List (Nat × C6)} {gs : List (Operand × D)}
theorem qe {x : Operand} {d : D} {s : Nat} (h : (hd st.env ops i X.n, opd st.env x) = (some (.assign x, s, gs), some d)) (k : Q (C6.upd ⟨gs ++ [(x, d)], [], some s, some d, [], []⟩ st)) : By P X ops false Q (0 + 1) i st log :=
 qa h (Ac k)
def YE (n : Nat) (ops : Array Oper) (i : Nat) (st : St) : Option C6 :=
 match (match cj ops i n with
  | some (_, s, t, want) => (match st.env t with
   | some (.e (.one (.pure (.val (.bool b))))) => (match b, want with
    | true, false => some (s, t, want)
    | false, true => some (s, t, want)
    | _, _ => none)
   | _ => none)
  | none => none) with
 | some (s, t, want) => some ⟨[(.tmp t, bD (!want))], [], some s, some uD, [], []⟩
 | none => match hd st.env ops i n with
  | some (.move x, s, gs) => (opd st.env x).map fun d => ⟨gs ++ [(x, d)], [], some s, some d, [], []⟩
  | _ => none
def Z8 (n : Nat) (ops : Array Oper) : Nat → Nat → St → List (Nat × C6) → Option (St × List (Nat × C6))
 | 0, _, st, log => some (st, log)
 | k + 1, i, st, log => match YE n ops i st with
  | none => none
  | some l => Z8 n ops k (i + 1) (C6.upd l st) ((i, l) :: log)
theorem Xw {l : C6} (h : YE X.n ops i st = some l) (next : Nx P X ops dr Q r i st log l) : By P X ops dr Q (r + 1) i st log := by
 unfold YE at h
 split at h
 ·rename_i s t want hh
  split at hh
  ·rename_i j s' t' want' ha
   split at hh
   ·rename_i b hb
    split at hh
    ·cases hh; cases h; exact qn (want := false) (by rw [ha, hb]; rfl) next
    ·cases hh; cases h; exact qn (want := true) (by rw [ha, hb]; rfl) next
    ·cases hh
   ·cases hh
  ·cases hh
 ·split at h
  ·rename_i x s gs' hh
   cases hd' : opd st.env x with
   | none => rw [hd'] at h; cases h
   | some d =>
    rw [hd'] at h
    cases h
    exact qm (by rw [hh, hd']) next
  ·cases h
theorem qw (k : Nat) {st' : St} {log' : List (Nat × C6)} (h : Z8 X.n ops k i st log = some (st', log')) (next : By P X ops dr Q r (i + k) st' log') : By P X ops dr Q (r + k) i st log := by
 induction k generalizing i st log with
 | zero => cases h; exact next
 | succ k ih =>
  rw [Z8] at h
  split at h
  ·cases h
  ·rename_i l hl
   exact Xw hl (ih h (by rwa [xE, Nat.add_comm 1]))
end
theorem cw {f n : Nat} {fn : Func} {c : Code} {args : List D} {rv : List (Nat × List (List T))} {res : D} {rs : List ResultVar} (hf : P.funcs[f]? = some fn)
  (h : ∀ (w0 : World) (S0 : Nat → Prop), W P ⟨w0, S0, n, G0 S0⟩ c (fun e st => match e with | .normal | .ret => Yr P rs st rv res | _ => False) (cq args))
  (hb : fn.body = some c := by exact rfl) (hn : fn.ntmps = n := by exact rfl) (hrs : fn.results.toList = rs := by exact rfl) (hl : args.length ≤ n := by exact Jd rfl) (hn9 : n ≤ 90000 := by exact Jd rfl) (hpub : args.all Ua = true := by exact rfl) : Au P f args rv res :=
 Q0 hf hb hn hrs hl hn9 hpub h
theorem tm {st : St} {t : Nat} {x : E} (h : st.env t = some (.e x) := by exact rfl) : ff P st [.tmp t] [x] := ⟨.tmp _ _ h, trivial⟩
end Go.Lift
namespace Go.Lift
open Go.RowKit Go.Shelf
def cP {α : Type} (c : α → α → Int) (x y : α) : Prop := c x y < 0 ∧ 0 < c y x
structure YS {α : Type} (c : α → α → Int) (M : α → Prop) : Prop where
 self : ∀ x, M x → c x x = 0
 tri : ∀ x y, M x → M y → x = y ∨ cP c x y ∨ cP c y x
 trans : ∀ x y z, M x → M y → M z → cP c x y → cP c y z → cP c x z
namespace YS
variable {α : Type} {c : α → α → Int} {M : α → Prop}
theorem lt (O : YS c M) {x y : α} (hx : M x) (hy : M y) : c x y < 0 ↔ cP c x y := by
 refine ⟨fun h => ?_, fun h => h.1⟩
 rcases O.tri x y hx hy with e | e | e
 ·subst e; have := O.self x hx; omega
 ·exact e
 ·have := e.2; omega
end YS
section
variable {P : Program} {ρ : Ren} {α : Type}
end
end Go.Lift
namespace Go.Lift
open Go.RowKit Go.Shelf
section
variable {α : Type}
end
end Go.Lift
namespace Go.Lift
open Option renaming bind_some → oS
open Go.RowKit Go.ChangeShapes Go.WideShapes
variable {P : Program} {X : IT} {ops : Array Oper}
section run
variable {dr : Bool} {Q : St → Prop} {r i : Nat} {st : St} {log : List (Nat × C6)} {o : Oper} {gs : List (Operand × D)}
theorem Ib {xt : TypeId} (x y : Operand) (a b : ByteArray) (h : a.size + b.size ≤ 9223372036854775807) : F3 P .add xt x y (.string a) (.string b) (.string (a ++ b)) := fun w => by
 have := run_string_add_sum (P := P) (w := w) a b h
 simp [binOp_string_add, eqGuard, this]
theorem PL {xt : TypeId} (x y : Operand) (a b : ByteArray) : F3 P .eql xt x y (.string a) (.string b) (.bool (a.toList == b.toList)) := fun w => by simp [eqGuard, binOp_string_eql]
end run
theorem cg {W : World} (h : ∀ x, x ∈ Of → ∀ g, P.globalNamed x.1 = some g → Lib.TabIs P W x.1 x.2.1 x.2.2) : Y2 P W (UU W) := fun x hx g hg => by
 have h1 := h x hx g hg
 refine ⟨?_, h1⟩
 unfold Lib.TabIs World.var? at h1
 rw [hg, oS] at h1
 show g < W.heap.size
 split at h1
 ·rename_i e; exact (zB8.1 e).1
 ·cases h1
theorem Ts {H : Type} {enc : TypeId × Value → H} {C : Checked} {os : Os} {f : FuncId} {fn : Func} {s : ChangeSpec} {conds : List PathCond} {tb : TypeId} {d : Nat} {laid : List (String × DataW Unit)}
  (own : ownKnob C.prog.godebug = none) (started : os.Started) (noInit : C.prog.inits.idxOf? f = none) (hfn : C.prog.funcs[f]? = some fn)
  (witness : ∃ (w : World) (tape : Tape) (i : Input), w.os = os ∧ (w.forCall tape i).Shaped C.prog ∧ i.vars = [] ∧ Input.okWide C.prog (w.forCall tape i) .any w.heap.size f i ∧
   ((s.pre enc C.prog fn conds false (w.forCall tape i).memory i.args ∧ laidMetH C.prog laid (w.forCall tape i).memory) ∧ sizedMet enc C.prog fn (OpenSpec.ofChange s) false (w.forCall tape i).memory i.args) ∧ ({} : Assume).holds C.prog (lone (Frame.enter C.prog f i.args .normal) [] (w.forCall tape i)))
  (hv : s.vars = []) (hs : ∀ ds : List (DataW H), ds.length = fn.params.toList.length → s.fn H (ds ++ []) = { results := [.lit (.bool true)], args := ds })
  (hres : fn.resultTypes = #[tb]) (htb : C.prog.underlying tb = some .bool) (hl : laidOutB C.prog = true)
  (hread : (fn.params.toList.all fun t => C.prog.readableRec t && decide (t < C.prog.types.size)) = true) (hplain : (fn.params.toList.all (Kp C.prog d)) = true)
  (law : ∀ Ds, K1 C.prog d fn.params.toList Ds → Au C.prog f Ds [] (.e (.one (.pure (.val (.bool true))))))
  (hp : (laid.all fun x => x.2.handleName?.isNone) = true) (hgk : ∀ W, laidMet C.prog laid W → Y2 C.prog W (UU W)) :
  ReturnsInHanded {} C os f .any (fun w args => (s.pre enc C.prog fn conds false w args ∧ laidMetH C.prog laid w) ∧ sizedMet enc C.prog fn (OpenSpec.ofChange s) false w args) (s.post enc C.prog fn false true false false) := by
 refine returnsInHanded_of_change_and (X := fun w _ => laidMetH C.prog laid w) (fun _ _ _ hh h => by rw [MakeChecks.laidMetH_plain _ _ _ hp] at h ⊢; exact h.of_heap hh) own started noInit hfn witness ?_
 intro W base args ds gs before hval hW _ _ hL _
 rw [MakeChecks.laidMetH_plain _ _ _ hp] at hL
 have hW' := hW
 obtain ⟨p, q, hA, hV, rfl, _, _⟩ := hW
 rw [hv] at hV
 obtain ⟨rfl, rfl⟩ := trodVars_none hV
 obtain ⟨Ds, h1, h2, h3, h4⟩ := VQ hplain (fun j t v hj hvj => hval j t v (by simpa using hj) (by simpa using hvj)) hA
 have hlt : ∀ x ∈ p, x.block < W.heap.size := fun x hx => hW'.lt x (by simp [hx])
 refine (law Ds h1 W (UU W) args (fun β h => h) (hgk W hL) (by simpa using h2) ?_).mono ?_
 ·intro j x hj
  obtain ⟨v, g1, g2⟩ := h4 j x hj
  have : AC args j = v := by unfold AC; rw [show args[j]? = some v from by simpa using g1]; rfl
  rw [this]; exact g2
 ·rintro e W' ⟨v, G', rfl, hb, _, _, hr, _⟩
  have hvb : v = .bool true := by
   have h5 : DJ W' G'.S v (.val (.bool true)) := hr
   cases h5; rfl
  subst hvb
  refine ⟨_, rfl, ds, [], p ++ [], [], p, [], hW', ?_, ?_, ?_, hb.frame _, fun h => by cases h⟩
  ·rw [hs ds h3, hres]
   exact trodAll_mk1 (shut_bool htb true)
  ·rw [hs ds h3]
   exact MI hl hb.toBelow hread hA hlt
  ·rw [hs ds h3, hv]
   rfl
end Go.Lift
namespace Go.Lift
open Go.RowKit Go.Shelf
def Rs (n : Int) : Option ByteArray := if -9223372036854775808 ≤ n ∧ n ≤ 9223372036854775807 then some ⟨(Lib.itoa n).toArray⟩ else none
theorem ci {P : Program} {ρ : Ren} (L : Go.Proofs.LaysM.n171 P ρ) {g : Nat} (hg : P.globalNamed "internal/strconv.uint64pow10" = some g) {n : Int} {r : ByteArray} (h : Rs n = some r) :
  Au P (ρ.f 171) [.e (.one (.pure (.val (.int .i64 n))))] [] (.e (.one (.pure (.val (.string r))))) := by
 intro w S vs hS hgk hlen hrd
 have h0 : DJ w S (AC vs 0) (.val (.int .i64 n)) := hrd 0 _ rfl
 have hv : AC vs 0 = .int .i64 n := DR h0
 have hvs : vs = #[.int .i64 n] := by
  have h2 : vs.size = 1 := hlen
  apply Array.ext (by simp [h2])
  intro i h1 _
  match i, h1 with
  | 0, h1 => rw [← hv]; simp [AC, h1]
  | i + 1, h1 => omega
 unfold Rs at h
 split at h
 ·rename_i hb
  cases h
  have ht : Lib.TabIs P w "internal/strconv.uint64pow10" .u64 Lib.pow10Tab := (hgk ("internal/strconv.uint64pow10", .u64, am) (by simp [Of]) g hg).2
  rw [hvs]
  refine (Go.Proofs.Any.strconv_Itoa L n hb.1 hb.2 w ht).mono ?_
  rintro e w' ⟨rfl, k, os, rfl⟩
  refine ⟨_, G0 S, rfl, ⟨⟨rfl, rfl, rfl, by simp [Go.Sort.grow], fun i hi => ?_⟩, .of (by show w.drawn ≤ w.drawn + k; omega)⟩, fun _ h => h, fun _ h => .inl h, .val _ rfl, fun i x hi => by simp at hi, fun i β hi => by simp at hi, fun i l β hi => by simp at hi⟩
  show (w.heap ++ os)[i]? = _
  rw [zD0, if_pos hi]
 ·cases h
end Go.Lift
namespace Go.Lift
open Go.RowKit
variable {P : Program} {X : IT}
end Go.Lift
namespace Go.Lift
open Go.RowKit
variable {P : Program} {X : IT} {ops : Array Oper}
section run
variable {dr : Bool} {Q : St → Prop} {r i : Nat} {st : St} {log : List (Nat × C6)} {o : Oper} {gs : List (Operand × D)}
end run
end Go.Lift
namespace Go.Lift
open Go.RowKit Go.Shelf
end Go.Lift
namespace Go.Lift
open Go.RowKit Go.Shelf
section
variable {P : Program} {ρ : Ren} {α : Type}
end
end Go.Lift
namespace Go.Lift
open Go.RowKit Go.Shelf
variable {P : Program} {X : IT} {ops : Array Oper}
theorem RT {st : St} (s : Nat) (d0 d : D) (hs : st.env s = some d0) (hn : d.names = []) (h : ∀ w G v, Ii P w G v d0 → Ii P w G v d) : Hh P X st (St.put st (some s) (some d)) := by
 rintro a w ⟨G, hh⟩
 refine ⟨G, { hh with env := ?_, live := ?_, blk := hh.blk, at_ok := hh.at_ok, at_inj := hh.at_inj, liveB := hh.liveB, nlt := hh.nlt, lent := hh.lent }⟩
 ·intro t d' ht
  simp only [St.put] at ht
  split at ht
  ·rename_i e; cases ht; rw [e]
   exact h w G _ (hh.env s _ hs)
  ·exact hh.env t d' ht
 ·intro t d' ht b hb
  simp only [St.put] at ht
  split at ht
  ·cases ht; rw [hn] at hb; cases hb
  ·exact hh.live t d' ht b hb
theorem Se {st : St} (s : Nat) (ts : List T) (hs : st.env s = some (.e (.one (.rop ts)))) : Hh P X st (St.put st (some s) (some (one (.rp (some ts))))) :=
 RT s _ _ hs rfl fun w G v h => by
  obtain ⟨β, off, arr, el, fz, rfl, h1, h2, h3, h4⟩ : FU P w G v (.rop ts) := h
  exact DJ.rp β off arr el fz ts h1 h2 h3 h4
theorem Xj {st : St} (s : Nat) (q : Option (List T)) (ts : List T) (hs : st.env s = some (one (.rp q))) (hq : q = some ts) : Hh P X st (St.put st (some s) (some (.e (.one (.rop ts))))) :=
 RT s _ _ hs rfl fun w G v h => by
  subst hq
  have h : DJ w G.S v (.rp (some ts)) := h
  cases h with
  | rp β off arr el fz _ h1 h2 h3 h4 => exact (⟨β, off, arr, el, fz, rfl, h1, h2, h3, h4⟩ : FU P w G _ (.rop ts))
theorem TF {P : Program} {ρ : Ren} (L : Go.Proofs.LaysM.n173 P ρ) {g : Nat} (hg : P.globalNamed "internal/strconv.uint64pow10" = some g) {n : Int} {r : ByteArray} (h : Rs n = some r) :
  Au P (ρ.f 173) [.e (.one (.pure (.val (.int .i64 n)))), .e (.one (.pure (.val (.int .i64 10))))] [] (.e (.one (.pure (.val (.string r))))) := by
 intro w S vs hS hgk hlen hrd
 have h0 : DJ w S (AC vs 0) (.val (.int .i64 n)) := hrd 0 _ rfl
 have h1 : DJ w S (AC vs 1) (.val (.int .i64 10)) := hrd 1 _ rfl
 have hv : AC vs 0 = .int .i64 n := DR h0
 have hv1 : AC vs 1 = .int .i64 10 := DR h1
 have hvs : vs = #[.int .i64 n, .int .i64 10] := by
  have h2 : vs.size = 2 := hlen
  apply Array.ext (by simp [h2])
  intro i h1 _
  match i, h1 with
  | 0, h1 => rw [← hv]; simp [AC, h1]
  | 1, h1 => rw [← hv1]; simp [AC, h1]
  | i + 2, h1 => omega
 unfold Rs at h
 split at h
 ·rename_i hb
  cases h
  have ht : Lib.TabIs P w "internal/strconv.uint64pow10" .u64 Lib.pow10Tab := (hgk ("internal/strconv.uint64pow10", .u64, am) (by simp [Of]) g hg).2
  rw [hvs]
  refine (Go.Proofs.Any.strconv_FormatInt_10 L n hb.1 hb.2 w ht).mono ?_
  rintro e w' ⟨rfl, k, os, rfl⟩
  refine ⟨_, G0 S, rfl, ⟨⟨rfl, rfl, rfl, by simp [Go.Sort.grow], fun i hi => ?_⟩, .of (by show w.drawn ≤ w.drawn + k; omega)⟩, fun _ h => h, fun _ h => .inl h, .val _ rfl, fun i x hi => by simp at hi, fun i β hi => by simp at hi, fun i l β hi => by simp at hi⟩
  show (w.heap ++ os)[i]? = _
  rw [zD0, if_pos hi]
 ·cases h
end Go.Lift
namespace Go.Lift
open Option renaming bind_some → oS
open Go.RowKit Go.Shelf
variable {P : Program} {X : IT} {ops : Array Oper} {dr : Bool} {Q : St → Prop} {r i : Nat} {st : St} {log : List (Nat × C6)} {gs : List (Operand × D)}
theorem TD {x : Operand} {s : Nat} {ts : List T} (hat : At st.env ops i X.n (.nilCheck x) s gs) (hx : opd st.env x = some (.e (.one (.rop ts))))
  (next : By P X ops dr Q r (i + 1) (C6.upd ⟨gs ++ [(x, .e (.one (.rop ts)))], [], some s, some (.e (.one (.rop ts))), [], []⟩ st) ((i, ⟨gs ++ [(x, .e (.one (.rop ts)))], [], some s, some (.e (.one (.rop ts))), [], []⟩) :: log)) : By P X ops dr Q (r + 1) i st log := by
 obtain ⟨o, ho, hop, hd, hn, hg, hgp⟩ := hat.out
 refine By.step next ⟨Ar.2 ⟨hgp, hx, trivial⟩, trivial, trivial⟩ (LR.value ho hg rfl hd.symm (DU hd hn) ?_)
 intro G st a w hs hpre
 obtain ⟨hx, _⟩ := (Ar.1 hpre.r).2
 obtain ⟨β, k, arr, el, fz, hv, h1⟩ : FU P w G (a.eval x) (.rop ts) := hs.opd hx
 refine ⟨.pointer (some ⟨β, k, none⟩), w, G, ?_, hs, ?_⟩
 ·simp only [execOp, hop, hv]; rfl
 ·rintro d ⟨⟩
  exact ⟨⟨β, k, arr, el, fz, rfl, h1⟩, fun b hb => by cases hb⟩
def XY (P : Program) (t n el : Nat) : Bool := match P.underlying t with | some (.array m e) => m == n && e == el | _ => false
theorem UZ {t n el : Nat} (h : XY P t n el = true) : P.underlying t = some (.array n el) := by
 unfold XY at h
 split at h
 ·rename_i m e hu
  simp only [zC, beq_iff_eq] at h
  rw [hu, h.1, h.2]
 ·cases h
theorem Yj {t n el e : Nat} {s : Nat} {z : Value} {zs : List Value} {cells : List C} {parts : Array (Nat × Operand)} (ps : List (Nat × Operand × E)) (hat : At st.env ops i X.n (.build t parts) s gs) (hps : parts = (ps.map fun p => (p.1, p.2.1)).toArray)
  (hx : FB st.env (Ie ps)) (hz : DH P t = some z) (hzs : z.cells.toList = zs) (h1 : zs.all Ig = true) (ha : XY P t n el = true) (he : Hn P el e = true) (hf : MR (fun i => some (i * e, e)) (zs.map fun v => C.pure (T.of v)) (ps.map fun p => (p.1, p.2.2)) = some cells)
  (next : By P X ops dr Q r (i + 1) (C6.upd ⟨gs ++ Ie ps, [], some s, some (.e (.agg cells)), [], []⟩ st) ((i, ⟨gs ++ Ie ps, [], some s, some (.e (.agg cells)), [], []⟩) :: log)) : By P X ops dr Q (r + 1) i st log := by
 obtain ⟨o, ho, hop, hd, hn, hg, hgp⟩ := hat.out
 refine By.step next ⟨Ar.2 ⟨hgp, hx⟩, trivial, trivial⟩ (LR.value ho hg rfl hd.symm (DU hd hn) ?_)
 intro G st a w hs hpre
 have hx := (Ar.1 hpre.r).2
 subst hzs
 have hpr := La hs hx
 obtain ⟨arr', r1, r2, r3⟩ := OF (P := P) (w := w) (G := G) (fun i => some (i * e, e)) (ps.map fun p => (p.1, p.2.2)) (ps.map fun p => (p.1, a.eval p.2.1)) _ cells z.cells (by simp) (fun j c hj => P3 h1 j c hj) (by simp) (fun j p v hp hv => ⟨(hpr j p v hp hv).1, (hpr j p v hp hv).2.1⟩) hf
 refine ⟨.agg arr', w, G, ?_, hs, ?_⟩
 ·simp only [execOp, hop, hps, Md]
  refine Am (run_build w t _ arr' ?_) rfl
  unfold DH at hz
  cases hit : P.info? t with
  | none => rw [hit] at hz; cases hz
  | some it =>
   rw [hit] at hz
   simp only [oS] at hz
   unfold Hn at he
   cases hie : P.info? el with
   | none => rw [hie] at he; cases he
   | some ie =>
    rw [hie] at he
    have he' : ie.size = e := by simpa using he
    unfold Program.built
    rw [hit, UZ ha]
    simp only [hz, hie, he']
    simpa using r1
 ·rintro d ⟨⟩
  refine ⟨⟨arr', rfl, r2, r3⟩, fun b hb => ?_⟩
  rcases Ma _ hf hb with h | ⟨p, h2, h3⟩
  ·rw [Oj] at h; cases h
  ·obtain ⟨j, hj⟩ := zM.1 h2
   have hlt := AT hj
   simp only [zU] at hlt
   exact (hpr j p ((ps.map fun p => (p.1, a.eval p.2.1))[j]'(by simpa using hlt)) hj (by simp [hlt])).2.2 b h3
theorem Yp {x y : Operand} {s n el t : Nat} {ts : List T} {u : T} {k : IntKind} {m : Int} (hat : At st.env ops i X.n (.indexAddr t x y) s gs)
  (hx : opd st.env x = some (.e (.one (.rop ts)))) (hy : opd st.env y = some (vD (.int k m))) (ht : XY P t n el = true) (hz : Hn P el 1 = true) (hl : ts.length = n) (h0 : 0 ≤ m) (hu : ts[m.toNat]? = some u)
  (next : By P X ops dr Q r (i + 1) (C6.upd ⟨gs ++ [(x, .e (.one (.rop ts))), (y, vD (.int k m))], [], some s, some (.e (.one (.rop [u]))), [], []⟩ st) ((i, ⟨gs ++ [(x, .e (.one (.rop ts))), (y, vD (.int k m))], [], some s, some (.e (.one (.rop [u]))), [], []⟩) :: log)) : By P X ops dr Q (r + 1) i st log := by
 obtain ⟨o, ho, hop, hd, hn, hg, hgp⟩ := hat.out
 refine By.step next ⟨Ar.2 ⟨hgp, hx, hy, trivial⟩, trivial, trivial⟩ (LR.value ho hg rfl hd.symm (DU hd hn) ?_)
 intro G st a w hs hpre
 obtain ⟨hx, hy, _⟩ := (Ar.1 hpre.r).2
 obtain ⟨β, off, arr, el', fz, hv, h1, h2, h3, h4⟩ : FU P w G (a.eval x) (.rop ts) := hs.opd hx
 have hY : a.eval y = .int k m := DR (hs.opd hy : DJ w G.S (a.eval y) (.val _))
 have hlt := AT hu
 refine ⟨.pointer (some ⟨β, off + m.toNat * 1, none⟩), w, G, ?_, hs, ?_⟩
 ·simp only [execOp, hop, hv, hY]
  refine Am (a := .pointer (some ⟨β, off + m.toNat * 1, none⟩)) (w1 := w) ?_ rfl
  unfold Instr.indexAt
  refine Am (a := (k, m)) (w1 := w) rfl ?_
  refine Am (AW (UZ ht) w) ?_
  have hb : 0 ≤ m ∧ m < (n : Int) := ⟨h0, by omega⟩
  refine Am (a := ⟨β, off, none⟩) (w1 := w) rfl ?_
  refine Am (a := ((some ⟨β, off, none⟩ : Option Addr), n, el)) (w1 := w) rfl ?_
  refine Am (AW (UZ ht) w) ?_
  simp only [hb, and_self, if_true]
  refine Am (Fv hz w) ?_
  rw [Addr.add_mk]; rfl
 ·rintro d ⟨⟩
  refine ⟨⟨β, off + m.toNat * 1, arr, el', fz, rfl, h1, h2, by simp; omega, fun j u' hj => ?_⟩, fun b hb => by cases hb⟩
  cases j with
  | zero =>
   cases hj
   have := h4 _ u hu
   simpa using this
  | succ j => simp at hj
theorem Uo {t : Nat} (h : OX P t = true) : P.underlying t = some .string := by
 unfold OX at h
 split at h
 ·assumption
 ·cases h
theorem OE {x : Operand} {b : ByteArray} {s t : Nat} (hat : At st.env ops i X.n (.call ⟨.builtin .len, #[x], #[t]⟩) s gs)
  (hx : opd st.env x = some (vD (.string b))) (ht : OX P t = true)
  (next : By P X ops dr Q r (i + 1) (C6.upd ⟨gs ++ [(x, vD (.string b))], [], some s, some (vD (.int .i64 (b.size : Int))), [], []⟩ st) ((i, ⟨gs ++ [(x, vD (.string b))], [], some s, some (vD (.int .i64 (b.size : Int))), [], []⟩) :: log)) : By P X ops dr Q (r + 1) i st log := by
 obtain ⟨o, ho, hop, hd, hn, hg, hgp⟩ := hat.out
 refine By.step next ⟨Ar.2 ⟨hgp, hx, trivial⟩, trivial, trivial⟩ (LR.value ho hg rfl hd.symm (DU hd hn) ?_)
 intro G st a w hs hpre
 obtain ⟨hx, _⟩ := (Ar.1 hpre.r).2
 have hX : a.eval x = .string b := DR (hs.opd hx : DJ w G.S (a.eval x) (.val _))
 refine ⟨.int .i64 b.size, w, G, ?_, hs, ?_⟩
 ·simp only [execOp, hop]
  refine HR fun cs => ?_
  simp only [uG, yR, zB4, builtin, hX]
  refine Am (a := .int .i64 b.size) (w1 := w) ?_ rfl
  unfold Builtin.len_
  refine Am (AW (Uo ht) w) ?_
  rfl
 ·rintro d ⟨⟩
  exact ⟨.val _ rfl, fun b hb => by cases hb⟩
theorem Oo {G : Gh} {st : St} {a : Act} {w : World} (hs : DQ P X G st a w) {lo hi : Option Operand} {l h len : Nat} {rl rh : List (Operand × D)} (hlo : Um lo 0 l rl) (hhi : Um hi len h rh) (h1 : FB st.env rl) (h2 : FB st.env rh) (hlh : l ≤ h) (hhc : h ≤ len) :
  (Instr.sliceBounds false len len (lo.map a.eval) (hi.map a.eval) none).run P w = .ok (l, h, len) w := by
 unfold Instr.sliceBounds
 refine Am (a := len) (w1 := w) rfl ?_
 have low : ∀ (h : Nat), l ≤ h → ((match lo.map a.eval with
      | some v => do
       let l ← Instr.sliceBound v h (if (none : Option Value).isSome = true then BoundsCode.slice3C else BoundsCode.sliceB)
       pure (l, h, len)
      | none => do
       let l ← pure 0
       pure (l, h, len) : Sem (Nat × Nat × Nat))).run P w = .ok (l, h, len) w := fun h hlh => by
  cases hlo with
  | none => rfl
  | some y d k v hv =>
   have : a.eval y = .int k v := DR (hs.opd h1.1 : DJ w G.S (a.eval y) (.val _))
   simp only [yT, this]
   exact Am (H4 hv hlh w) rfl
 cases hhi with
 | none => exact Am (w1 := w) rfl (low _ hlh)
 | some y d k v hv =>
  have : a.eval y = .int k v := DR (hs.opd h2.1 : DJ w G.S (a.eval y) (.val _))
  simp only [yT, this]
  exact Am (H4 hv hhc w) (low _ hlh)
theorem TJ {x : Operand} {t s l h : Nat} {lo hi : Option Operand} {rl rh : List (Operand × D)} {b : ByteArray} (hat : At st.env ops i X.n (.slice t x lo hi none) s gs)
  (hx : opd st.env x = some (vD (.string b))) (ht : OX P t = true) (hlo : Um lo 0 l rl) (hhi : Um hi b.size h rh) (h1 : FB st.env rl) (h2 : FB st.env rh) (hlh : l ≤ h) (hhl : h ≤ b.size)
  (next : By P X ops dr Q r (i + 1) (C6.upd ⟨gs ++ ((x, vD (.string b)) :: (rl ++ rh)), [], some s, some (vD (.string (b.extract l h))), [], []⟩ st) ((i, ⟨gs ++ ((x, vD (.string b)) :: (rl ++ rh)), [], some s, some (vD (.string (b.extract l h))), [], []⟩) :: log)) : By P X ops dr Q (r + 1) i st log := by
 obtain ⟨o, ho, hop, hd, hn, hg, hgp⟩ := hat.out
 refine By.step next ⟨Ar.2 ⟨hgp, hx, Ar.2 ⟨h1, h2⟩⟩, trivial, trivial⟩ (LR.value ho hg rfl hd.symm (DU hd hn) ?_)
 intro G st a w hs hpre
 obtain ⟨hx, h12⟩ := (Ar.1 hpre.r).2
 obtain ⟨h1, h2⟩ := Ar.1 h12
 have hX : a.eval x = .string b := DR (hs.opd hx : DJ w G.S (a.eval x) (.val _))
 refine ⟨.string (b.extract l h), w, G, ?_, hs, ?_⟩
 ·simp only [execOp, hop, hX]
  refine Am (a := .string (b.extract l h)) (w1 := w) ?_ rfl
  unfold Instr.sliceAt
  refine Am (AW (Uo ht) w) ?_
  unfold Instr.slice
  refine Am (AW (Uo ht) w) ?_
  refine Am (Oo hs hlo hhi h1 h2 hlh hhl) ?_
  rfl
 ·rintro d ⟨⟩
  exact ⟨.val _ rfl, fun b hb => by cases hb⟩
end Go.Lift
namespace Go.Lift
open Go.RowKit Go.Proofs
theorem VS {w : World} {b : Nat} {o : Obj} (h : w.heap[b]? = some o) : b < w.heap.size := (zB8.1 h).1
theorem Xr {T e : TypeId} {B b : Nat} {bs : List Value} {w w' : World} (h : Lib.IsBuilder T e B b bs w) (hb : Below w.heap.size w w') : Lib.IsBuilder T e B b bs w' := by
 have key : ∀ p, Lib.BuilderAt T e B b p bs w → Lib.BuilderAt T e B b p bs w' := by
  rintro p ⟨h1, v, h2, ⟨h3, h4⟩, h5⟩
  refine ⟨h1, v, by rw [hb.block b (VS h2)]; exact h2, ⟨h3, ?_⟩, h5⟩
  rcases h4 with h4 | ⟨g, cap, cur, k1, k2, k3, k4⟩
  ·exact .inl h4
  ·exact .inr ⟨g, cap, cur, k1, k2, by rw [hb.block g (VS k3)]; exact k3, k4⟩
 exact h.imp (key _) (key _)
end Go.Lift
namespace Go.Lift
def Aq (n : Int) : List T := [.val (.int .i64 n)]
def Cy (n : Int) : List T := [.val (.int .u8 n)]
def fX (n : Int) : List T := [.val (.int .u16 n)]
abbrev Ij (n : Int) : T := .val (.int .i64 n)
abbrev tB (b : Bool) : T := .val (.bool b)
def eB (b : Bool) : List T := [.val (.bool b)]
def eS (s : ByteArray) : List T := [.val (.string s)]
def Nv {α : Type} (f : α → List T) (xs : List α) : List T := [.sl (xs.map f)]
theorem YV : cU Aq := ⟨by intro x y h; simpa [Aq] using h⟩
theorem ge : cU eB := ⟨by intro x y h; simpa [eB] using h⟩
theorem dY {α : Type} {f : α → List T} (h : cU f) : cU (Nv f) := ⟨by intro x y hx; simp only [Nv, List.cons.injEq, T.sl.injEq, and_true] at hx; exact Vf h.inj _ _ hx⟩
structure HE where
 gD : Int
 gM : Int
 gW : Int
 qr : Bool
 qE : Int
 qF : Int
def Fs (x : HE) : List T := [.val (.int .u8 x.gD), .val (.int .u8 x.gM), .val (.int .u8 x.gW), .val (.bool x.qr), .val (.int .u16 x.qE), .val (.int .u16 x.qF)]
structure BG where
 gH : List Int
 gR : List Int
 gU : List Int
 qy : List HE
def Nt (x : BG) : List T := [.sl (x.gH.map Cy), .sl (x.gR.map Cy), .sl (x.gU.map Cy), .sl (x.qy.map Fs)]
structure Bz where
 gK : BG
 qA : List Int
 qD : List Int
def Ot (x : Bz) : List T := [.sl (x.gK.gH.map Cy), .sl (x.gK.gR.map Cy), .sl (x.gK.gU.map Cy), .sl (x.gK.qy.map Fs), .sl (x.qA.map Cy), .sl (x.qD.map Cy)]
structure Ae where
 gD : Int
 gL : Int
 gV : Int
def Ax (x : Ae) : List T := [.val (.int .i64 x.gD), .val (.int .i64 x.gL), .val (.int .i64 x.gV)]
theorem Us : cU Ax := ⟨by
 rintro ⟨a1, a2, a3⟩ ⟨b1, b2, b3⟩ h
 simp only [Ax, List.cons.injEq, T.val.injEq, Value.int.injEq, and_true, true_and] at h
 obtain ⟨h1, h2, h3⟩ := h
 subst h1
 subst h2
 subst h3
 rfl⟩
structure Ad where
 gE : Int
 gD : Int
 gX : Int
 g8 : Int
 hJ : Int
 gL : Int
 gN : Int
 gP : Int
 gO : Int
 gV : Int
 qv : Int
def AO (x : Ad) : List T := [.val (.int .i64 x.gE), .val (.int .i64 x.gD), .val (.int .i64 x.gX), .val (.int .i64 x.g8), .val (.int .i64 x.hJ), .val (.int .i64 x.gL), .val (.int .i64 x.gN), .val (.int .i64 x.gP), .val (.int .i64 x.gO), .val (.int .i64 x.gV), .val (.int .i64 x.qv)]
structure AA where
 gD : Int
 gM : Int
 gW : Int
 qr : Bool
 gY : List (List Bool)
 g9 : List (List Bool)
def Bs (x : AA) : List T := [.val (.int .i64 x.gD), .val (.int .i64 x.gM), .val (.int .i64 x.gW), .val (.bool x.qr), .sl (x.gY.map (Nv eB)), .sl (x.g9.map (Nv eB))]
structure Aa where
 gH : List Int
 gR : List Int
 gU : List Int
 gJ : List AA
structure Ab where
 gI : List Int
 gF : List Int
 gG : List Int
def CZ (x : Ab) : List T := [.sl (x.gI.map Aq), .sl (x.gF.map Aq), .sl (x.gG.map Cy)]
structure Ao where
 gK : Aa
 gZ : List Ae
 gE : Int
 gQ : Int
 gB : Ab
def GZ (x : Ao) : List T := [.sl (x.gK.gH.map Aq), .sl (x.gK.gR.map Aq), .sl (x.gK.gU.map Aq), .sl (x.gK.gJ.map Bs), .sl (x.gZ.map Ax), .val (.int .i64 x.gE), .val (.int .i64 x.gQ), .sl (x.gB.gI.map Aq), .sl (x.gB.gF.map Aq), .sl (x.gB.gG.map Cy)]
structure BI where
 hM : Int
 hO : Int
 qc : Bool
 qo : List (Int × Int)
structure Az where
 gX : Int
 g8 : Int
 hJ : Int
def CR (x : Az) : List T := [.val (.int .i64 x.gX), .val (.int .i64 x.g8), .val (.int .i64 x.hJ)]
structure AD where
 gB : Ab
 qN : Int
 qC : Ae
def BS (x : AD) : List T := [.sl (x.gB.gI.map Aq), .sl (x.gB.gF.map Aq), .sl (x.gB.gG.map Cy), .val (.int .i64 x.qN), .val (.int .i64 x.qC.gD), .val (.int .i64 x.qC.gL), .val (.int .i64 x.qC.gV)]
structure Ak where
 gT : List Ae
 gE : Int
 gQ : Int
 gO : Int
 gP : Int
 gN : Int
 gB : Ab
structure Ct where
 gD : Int
 gN : Int
 gP : Int
 gO : Int
 gV : Int
 qG : Bool
 gX : Int
structure Fw where
 gD : Int
 gN : Int
 gL : Int
 qH : ByteArray
structure DY where
 gP : Int
 gO : Int
 gV : Int
structure Bk where
 gD : Int
 qt : Fw
 qB : DY
 qM : Int
 gX : Int
def Cj (x : Bk) : List T := [.val (.int .i64 x.gD), .val (.int .i64 x.qt.gD), .val (.int .i64 x.qt.gN), .val (.int .i64 x.qt.gL), .val (.string x.qt.qH), .val (.int .i64 x.qB.gP), .val (.int .i64 x.qB.gO), .val (.int .i64 x.qB.gV), .val (.int .i64 x.qM), .val (.int .i64 x.gX)]
structure L0 where
 gE : Int
 qq : Bool
 qd : Bool
 gB : Ab
end Go.Lift
