/- Lemmas for RefuseReasonsSaid, which YtpaobkaighpaaaaGreatFinR7 proves. -/
import Derived.Test.YtpaobkaighpaaaaGreatLift16
import Derived.ProofKit
open Array renaming getD_eq_getD_getElem? → zE3, getElem?_eq_none → zE2, length_toList → zI0, replicate → zI9
open Bool renaming and_eq_true → zA4, and_eq_true_iff → zH0, not_eq_true' → zH4, not_true → zB7, or_eq_true → zF6, true_and → zF1
open List renaming all_cons → zG3, all_eq_true → zA5, append_assoc → zD2, drop_drop → zH5, drop_eq_nil_of_le → zB3, eq_nil_of_length_eq_zero → zD1, getD_cons_zero → zK2, getElem?_append_left → zC4, getElem?_append_right → zD0, getElem?_drop → zD5, getElem?_eq_getElem → zB6, getElem?_eq_none → zB9, getElem?_map → zA6, getElem?_set → zD8, getElem?_take_of_lt → zC1, length → zH1, length_cons → zC6, length_map → zC2, length_set → zF8, map_cons → zC3, map_nil → zG7, map_toArray → zF4, mem_append_left → zG6, mem_cons → zB0, mem_iff_getElem? → zA8, mem_map → zB8, nodup_cons → zE7, range → zB1, range' → zI5, replicate → zA2
open Nat renaming add_assoc → zF3, add_mul → zD7, add_sub_cancel_left → zH3, add_zero → zF9, ble → zG8, ble_eq_true_of_le → zH8, blt_eq → zH2, eq_zero_or_pos → zK1, le_of_ble_eq_true → zC8, le_refl → zB4, le_trans → zG4, lt_irrefl → zG2, lt_or_ge → zD6, min → zE5, mul_le_mul_right → zA3, succ_mul → zC7, zero_add → zA1, zero_le → zB2
open Option renaming getD_some → zC9, map_some → zE8
namespace Go.Lift
open Go.RowKit
variable {P : Program} {X : Im} {ops : Array Oper}
def JC (P : Program) : Nat → List Field → Option (List Nat)
 | _, [] => some []
 | k, f :: fs => if f.name == "_" || f.offset != k then none else match P.underlying f.type with
  | some (.int _) => (JC P (k + 1) fs).map (0 :: ·)
  | some .bool => (JC P (k + 1) fs).map (1 :: ·)
  | some .string => (JC P (k + 1) fs).map (2 :: ·)
  | _ => none
def U2 (P : Program) (t : TypeId) : Option (List Nat) :=
 match P.underlying t with
 | some (.struct fs) => if P.stoodInHeld t || P.eqGuardType P.depth t then none else JC P 0 fs.toList
 | _ => none
def FK : List Nat → List Value → List Value → Option Bool
 | [], [], [] => some true
 | 0 :: ts, .int k a :: ar, .int k' b :: bs => if k = k' then (FK ts ar bs).map (fun r => (a == b) && r) else none
 | 1 :: ts, .bool a :: ar, .bool b :: bs => (FK ts ar bs).map (fun r => (a == b) && r)
 | 2 :: ts, .string a :: ar, .string b :: bs => (FK ts ar bs).map (fun r => (a.toList == b.toList) && r)
 | _, _, _ => none
theorem Wo {ts : List Nat} {ar bs : List Value} {r : Bool} (h : FK (0 :: ts) ar bs = some r) : ∃ k a ar' b bs' r', ar = .int k a :: ar' ∧ bs = .int k b :: bs' ∧ FK ts ar' bs' = some r' ∧ r = ((a == b) && r') := by
 unfold FK at h
 split at h <;> try (exfalso; simp_all; done)
 rename_i ts' k a ar' k' b bs' e
 cases e
 split at h
 ·rename_i e; subst e
  cases hel : FK ts ar' bs' with
  | none => rw [hel] at h; cases h
  | some r' =>
   rw [hel] at h
   exact ⟨k, a, ar', b, bs', r', rfl, rfl, hel, by simpa using h.symm⟩
 ·cases h
theorem V8 {ts : List Nat} {ar bs : List Value} {r : Bool} (h : FK (1 :: ts) ar bs = some r) : ∃ a ar' b bs' r', ar = .bool a :: ar' ∧ bs = .bool b :: bs' ∧ FK ts ar' bs' = some r' ∧ r = ((a == b) && r') := by
 unfold FK at h
 split at h <;> try (exfalso; simp_all; done)
 rename_i ts' a ar' b bs' e
 cases e
 cases hel : FK ts ar' bs' with
 | none => rw [hel] at h; cases h
 | some r' =>
  rw [hel] at h
  exact ⟨a, ar', b, bs', r', rfl, rfl, hel, by simpa using h.symm⟩
theorem Wv {ts : List Nat} {ar bs : List Value} {r : Bool} (h : FK (2 :: ts) ar bs = some r) : ∃ a ar' b bs' r', ar = .string a :: ar' ∧ bs = .string b :: bs' ∧ FK ts ar' bs' = some r' ∧ r = ((a.toList == b.toList) && r') := by
 unfold FK at h
 split at h <;> try (exfalso; simp_all; done)
 rename_i ts' a ar' b bs' e
 cases e
 cases hel : FK ts ar' bs' with
 | none => rw [hel] at h; cases h
 | some r' =>
  rw [hel] at h
  exact ⟨a, ar', b, bs', r', rfl, rfl, hel, by simpa using h.symm⟩
theorem P8 {t : TypeId} (h : Fp P t false = true) {cs : Array Value} {off : Nat} {v : Value} (hv : cs[off]? = some v) (w : World) : (part t cs off).run P w = .ok v w := by
 unfold part
 refine Aj (Hu h w) ?_
 simp only [Bool.false_eq_true, if_false, hv]
 rfl
theorem On (d : Nat) (xs ys : Array Value) (w : World) : ∀ (fs : List Field) (ts : List Nat) (k : Nat) (ar bs : List Value) (r : Bool), JC P k fs = some ts → (∀ (j : Nat) (v : Value), ar[j]? = some v → xs[k + j]? = some v) → (∀ (j : Nat) (v : Value), bs[j]? = some v → ys[k + j]? = some v) → FK ts ar bs = some r →
  (Op.eqFields (d + 1) xs ys fs).run P w = .ok r w
 | [], ts, k, ar, bs, r, ht, hx, hy, he => by
  cases ht
  cases ar <;> cases bs <;> simp [FK] at he
  subst he; rfl
 | f :: fs, ts, k, ar, bs, r, ht, hx, hy, he => by
  simp only [JC] at ht
  split at ht
  ·cases ht
  ·rename_i hn
   simp only [zF6, not_or, beq_iff_eq, bne_iff_ne, ne_eq, Decidable.not_not] at hn
   obtain ⟨hn1, hn2⟩ := hn
   subst hn2
   have step : ∀ (ts' : List Nat) (a b : Value) (ar' bs' : List Value) (q r' : Bool), ar = a :: ar' → bs = b :: bs' → JC P (f.offset + 1) fs = some ts' → FK ts' ar' bs' = some r' → Fp P f.type false = true → (Op.equalIn (d + 1) f.type a b).run P w = .ok q w →
     (Op.eqFields (d + 1) xs ys (f :: fs)).run P w = .ok (q && r') w := by
    intro ts' a b ar' bs' q r' ha hb htl hel hag heq
    subst ha; subst hb
    have h1 : xs[f.offset]? = some a := hx 0 a rfl
    have h2 : ys[f.offset]? = some b := hy 0 b rfl
    simp only [Op.eqFields, hn1, ne_eq, not_false_eq_true, if_true]
    refine Aj (P8 hag h1 w) (Aj (P8 hag h2 w) (Aj heq ?_))
    cases q
    ·simp
    ·simp only [zB7, Bool.false_eq_true, if_false, zF1]
     exact On d xs ys w fs ts' (f.offset + 1) ar' bs' r' htl (fun j v hj => by rw [show f.offset + 1 + j = f.offset + (j + 1) from by omega]; exact hx (j + 1) v hj) (fun j v hj => by rw [show f.offset + 1 + j = f.offset + (j + 1) from by omega]; exact hy (j + 1) v hj) hel
   split at ht
   ·rename_i kk hu
    cases htl : JC P (f.offset + 1) fs with
    | none => rw [htl] at ht; cases ht
    | some ts' =>
     rw [htl] at ht; cases ht
     obtain ⟨k1, a1, ar', b1, bs', r', e1, e2, hel, rfl⟩ := Wo he
     subst e1; subst e2
     exact step ts' _ _ ar' bs' _ r' rfl rfl htl hel (by unfold Fp; rw [hu]; rfl) (run_equalIn_int w d f.type k1 kk a1 b1 hu)
   ·rename_i hu
    cases htl : JC P (f.offset + 1) fs with
    | none => rw [htl] at ht; cases ht
    | some ts' =>
     rw [htl] at ht; cases ht
     obtain ⟨a1, ar', b1, bs', r', e1, e2, hel, rfl⟩ := V8 he
     subst e1; subst e2
     exact step ts' _ _ ar' bs' _ r' rfl rfl htl hel (by unfold Fp; rw [hu]; rfl) (run_equalIn_bool' w d f.type a1 b1 hu)
   ·rename_i hu
    cases htl : JC P (f.offset + 1) fs with
    | none => rw [htl] at ht; cases ht
    | some ts' =>
     rw [htl] at ht; cases ht
     obtain ⟨a1, ar', b1, bs', r', e1, e2, hel, rfl⟩ := Wv he
     subst e1; subst e2
     exact step ts' _ _ ar' bs' _ r' rfl rfl htl hel (by unfold Fp; rw [hu]; rfl) (run_equalIn_string w d f.type a1 b1 hu)
   ·cases ht
theorem Mu {t : TypeId} {ts : List Nat} (h : U2 P t = some ts) {ar bs : List Value} {r : Bool} (hr : FK ts ar bs = some r) (w : World) :
  (Op.equalIn 10000 t (.agg ar.toArray) (.agg bs.toArray)).run P w = .ok r w ∧ P.eqGuardType P.depth t = false := by
 unfold U2 at h
 split at h
 ·rename_i fs hu
  split at h
  ·cases h
  ·rename_i hn
   simp only [zF6, not_or, Bool.not_eq_true] at hn
   have hf : P.fieldsOf t = fs := by unfold Program.fieldsOf; rw [hu]
   refine ⟨?_, hn.2⟩
   rw [run_equalIn_struct w 9999 t _ _ (by rw [hf]; exact hu) hn.1, hf]
   exact On 9998 _ _ w fs.toList ts 0 ar bs r h (fun j v hj => by simpa using hj) (fun j v hj => by simpa using hj) hr
 ·cases h
abbrev aD (ar : List Value) : D := .e (.agg (ar.map fun v => .pure (.val v)))
theorem QJ {w : World} {G : Gh} {v : Value} {ar : List Value} (h : Hj P w G v (aD ar)) : v = .agg ar.toArray := by
 obtain ⟨vs, rfl, hs, h⟩ := h
 congr 1
 have hs' : vs.size = ar.length := by simpa using hs
 apply Array.ext
 ·simpa using hs'
 ·intro j h1 h2
  have hj : j < ar.length := by omega
  have : Fg P w G (Aw vs j) (.pure (.val ar[j])) := h j _ (by simp [hj])
  have h3 := E7 (this : Ea w G.S _ (.val _))
  simpa [Aw, h1] using h3
section run
variable {dr : Bool} {Q : St → Prop} {r i : Nat} {st : St} {log : List (Nat × CM)} {o : Oper} {gs : List (Operand × D)}
theorem VG {xt yt : TypeId} {x y : Operand} {s : Nat} {ts : List Nat} {b : Bool} (ar bs : List Value) (hat : At st.env ops i X.n (.binOp .eql xt x y yt) s gs)
  (hx : opd st.env x = some (aD ar)) (hy : opd st.env y = some (aD bs)) (ht : U2 P xt = some ts) (he : FK ts ar bs = some b)
  (next : A8 P X ops dr Q r (i + 1) (CM.upd ⟨gs ++ [(x, aD ar), (y, aD bs)], [], some s, some (bD b), [], []⟩ st) ((i, ⟨gs ++ [(x, aD ar), (y, aD bs)], [], some s, some (bD b), [], []⟩) :: log)) : A8 P X ops dr Q (r + 1) i st log := by
 obtain ⟨o, ho, hop, hd, hn, hg, hgp⟩ := hat.out
 refine A8.step next ⟨Ak.2 ⟨hgp, hx, hy, trivial⟩, trivial, trivial⟩ (LR.value ho hg rfl hd.symm (Dx hd hn) ?_)
 intro G st a w hs hpre
 obtain ⟨hx, hy, _⟩ := (Ak.1 hpre.r).2
 have hX := QJ (hs.opd hx)
 have hY := QJ (hs.opd hy)
 obtain ⟨h1, h2⟩ := Mu ht he w
 refine ⟨.bool b, w, G, ?_, hs, ?_⟩
 ·simp only [execOp, hop, hX, hY]
  refine Aj (a := .bool b) (w1 := w) (Aj (run_eqGuard_agg w .eql xt x y _ _ h2) ?_) rfl
  rw [run_eql_struct, h1]; rfl
 ·rintro d ⟨⟩
  exact ⟨.val _ rfl, fun b hb => by cases hb⟩
theorem YA {xt yt : TypeId} {x y : Operand} {s : Nat} {ts : List Nat} {b : Bool} (ar bs : List Value) (hat : At st.env ops i X.n (.binOp .neq xt x y yt) s gs)
  (hx : opd st.env x = some (aD ar)) (hy : opd st.env y = some (aD bs)) (ht : U2 P xt = some ts) (he : FK ts ar bs = some b)
  (next : A8 P X ops dr Q r (i + 1) (CM.upd ⟨gs ++ [(x, aD ar), (y, aD bs)], [], some s, some (bD (!b)), [], []⟩ st) ((i, ⟨gs ++ [(x, aD ar), (y, aD bs)], [], some s, some (bD (!b)), [], []⟩) :: log)) : A8 P X ops dr Q (r + 1) i st log := by
 obtain ⟨o, ho, hop, hd, hn, hg, hgp⟩ := hat.out
 refine A8.step next ⟨Ak.2 ⟨hgp, hx, hy, trivial⟩, trivial, trivial⟩ (LR.value ho hg rfl hd.symm (Dx hd hn) ?_)
 intro G st a w hs hpre
 obtain ⟨hx, hy, _⟩ := (Ak.1 hpre.r).2
 have hX := QJ (hs.opd hx)
 have hY := QJ (hs.opd hy)
 obtain ⟨h1, h2⟩ := Mu ht he w
 refine ⟨.bool (!b), w, G, ?_, hs, ?_⟩
 ·simp only [execOp, hop, hX, hY]
  refine Aj (a := .bool (!b)) (w1 := w) (Aj (run_eqGuard_agg w .neq xt x y _ _ h2) ?_) rfl
  rw [run_neq_struct, h1]; rfl
 ·rintro d ⟨⟩
  exact ⟨.val _ rfl, fun b hb => by cases hb⟩
theorem Uf {xt yt : TypeId} {x : Operand} {s e : Nat} {rows : List (List T)} (hat : At st.env ops i X.n (.binOp .eql xt x (.const (.slice none 0 0)) yt) s gs)
  (hx : opd st.env x = some (one (.sl rows))) (ht : sliceB P xt e = true)
  (next : A8 P X ops dr Q r (i + 1) (CM.upd ⟨gs ++ [(x, one (.sl rows))], [], some s, some (.e (.one (.nilq (rows = [])))), [], []⟩ st) ((i, ⟨gs ++ [(x, one (.sl rows))], [], some s, some (.e (.one (.nilq (rows = [])))), [], []⟩) :: log)) : A8 P X ops dr Q (r + 1) i st log := by
 obtain ⟨o, ho, hop, hd, hn, hg, hgp⟩ := hat.out
 refine A8.step next ⟨Ak.2 ⟨hgp, hx, trivial⟩, trivial, trivial⟩ (LR.value ho hg rfl hd.symm (Dx hd hn) ?_)
 intro G st a w hs hpre
 obtain ⟨hx, _⟩ := (Ak.1 hpre.r).2
 have hX : Ea w G.S (a.eval x) (.sl rows) := hs.opd hx
 obtain ⟨av, l, c, hv, hq⟩ : ∃ av l c, a.eval x = .slice av l c ∧ (av.isNone = true → rows = []) := by
  generalize a.eval x = v at hX
  cases hX with
  | nil av cap => exact ⟨av, 0, cap, rfl, fun _ => rfl⟩
  | sl β off cap e arr el fz rows h1 h2 h3 h4 h5 h6 => exact ⟨_, _, _, rfl, fun h => by cases h⟩
 have hu : P.underlying xt = some (.slice e) := by
  unfold sliceB at ht
  split at ht
  ·rename_i e' he; rw [he]; simp at ht; rw [ht]
  ·cases ht
 refine ⟨.bool av.isNone, w, G, ?_, hs, ?_⟩
 ·simp only [execOp, hop, hv]
  refine Aj (a := .bool av.isNone) (w1 := w) (Aj (a := ()) (w1 := w) (by simp [eqGuard]) ?_) rfl
  have h1 : (Op.equalIn (9999 + 1) xt (.slice av l c) (.slice none 0 0)).run P w = .ok av.isNone w := by
   generalize 9999 = dd
   cases av <;> (unfold Op.equalIn; exact Aj (AO hu w) rfl)
  simp only [binOp, Act.eval]
  refine Aj (a := av.isNone) (w1 := w) ?_ rfl
  exact h1
 ·rintro d ⟨⟩
  exact ⟨⟨_, rfl, hq⟩, fun b hb => by cases hb⟩
end run
theorem Uo {c : Operand} {x y : Code} {Q : Exit → St → Prop} {st : St} {p : Prop} (hc : opd st.env c = some (.e (.one (.nilq p)))) (ht : p → W P X x Q st) (hf : W P X y Q st) : W P X (.cond c x y) Q st := by
 intro a w hs
 obtain ⟨b, hcv, hp⟩ : ∃ b, a.eval c = .bool b ∧ (b = true → p) := by
  obtain ⟨G, hs⟩ := hs
  exact hs.opd hc
 cases b with
 | true => exact wp_cond_true hcv (ht (hp rfl) a w hs)
 | false => exact wp_cond_false hcv (hf a w hs)
end Go.Lift
namespace Go.Lift
open List renaming mem_of_getElem? → lM
open Go.RowKit
variable {P : Program} {X : Im} {ops : Array Oper}
def QN : Bool × List T → D
 | (true, ts) => .e (.agg (ts.map .pure))
 | (false, ts) => .e (.one (.pure (ts.headD .nil0)))
def Yz : Bool × List T → Bool
 | (true, _) => true
 | (false, ts) => match ts with | [_] => true | _ => false
theorem Zw {w : World} {S : Nat → Prop} {G : Gh} {v : Value} {x : Bool × List T} (h : Hj P w G v (QN x)) (hS : ∀ β, G.S β → S β) (hx : Yz x = true) : Y6 w S v x := by
 obtain ⟨b, ts⟩ := x
 cases b with
 | false =>
  match ts, hx with
  | [t], _ => exact ⟨t, rfl, Ea.mono (show Ea w G.S v t from h) (fun _ _ => rfl) hS⟩
 | true =>
  obtain ⟨vs, e, hs, h⟩ := h
  refine ⟨vs, e, by simpa using hs, fun j t hj => ?_⟩
  have : Fg P w G (Aw vs j) (.pure t) := h j (.pure t) (by simp [hj])
  exact Ea.mono this (fun _ _ => rfl) hS
theorem WZ {w : World} {S : Nat → Prop} {v : Value} {x : Bool × List T} (h : Y6 w S v x) : Hj P w (G0 S) v (QN x) := by
 obtain ⟨b, ts⟩ := x
 cases b with
 | false =>
  obtain ⟨t, rfl, h⟩ := h
  exact h
 | true =>
  obtain ⟨vs, e, hs, h⟩ := h
  refine ⟨vs, e, by simpa using hs, fun j c hj => ?_⟩
  rw [zA6] at hj
  cases hx : ts[j]? with
  | none => rw [hx] at hj; cases hj
  | some t => rw [hx] at hj; cases hj; exact h j t hx
noncomputable def HJ {α ρ : Type} (ea : α → List (Bool × List T)) (er : ρ → T) (q : α → Option ρ) : List (Bool × List T) → Option T := fun ar =>
 open Classical in if h : ∃ x r, ea x = ar ∧ q x = some r then some (er (Classical.choose (Classical.choose_spec h))) else none
theorem Hx {α ρ : Type} {ea : α → List (Bool × List T)} {er : ρ → T} {q : α → Option ρ} {ar : List (Bool × List T)} {t : T} (h : HJ ea er q ar = some t) : ∃ x r, ar = ea x ∧ q x = some r ∧ t = er r := by
 unfold HJ at h
 split at h
 ·rename_i hx
  cases h
  have := Classical.choose_spec (Classical.choose_spec hx)
  exact ⟨_, _, this.1.symm, this.2, rfl⟩
 ·cases h
theorem Jy {α ρ : Type} {ea : α → List (Bool × List T)} {er : ρ → T} {q : α → Option ρ} (inj : ∀ x y, ea x = ea y → x = y) {x : α} {r : ρ} (h : q x = some r) : HJ ea er q (ea x) = some (er r) := by
 have hx : ∃ y s, ea y = ea x ∧ q y = some s := ⟨x, r, rfl, h⟩
 unfold HJ
 rw [dif_pos hx]
 have h1 := Classical.choose_spec (Classical.choose_spec hx)
 have h2 := inj _ _ h1.1
 have h3 : q (Classical.choose hx) = some r := by rw [h2]; exact h
 exact congrArg (fun z => some (er z)) (Option.some.inj (h3.symm.trans h1.2)).symm
structure Vq {α β : Type} (f : α → β) : Prop where
 inj : ∀ x y, f x = f y → x = y
def Nw {α : Type} (b : Bool) (e : α → List T) (x : α) : List (Bool × List T) := [(b, e x)]
def Vm {α β : Type} (b : Bool) (e : α → List T) (b' : Bool) (e' : β → List T) (x : α × β) : List (Bool × List T) := [(b, e x.1), (b', e' x.2)]
theorem MR {α : Type} (b : Bool) (e : α → List T) (h : Vq e) : ∀ x y, Nw b e x = Nw b e y → x = y := by
 intro x y hxy
 simp only [Nw, List.cons.injEq, Prod.mk.injEq, true_and, and_true] at hxy
 exact h.inj _ _ hxy
theorem QF {α β : Type} (b : Bool) (e : α → List T) (b' : Bool) (e' : β → List T) (h : Vq e) (h' : Vq e') : ∀ x y, Vm b e b' e' x = Vm b e b' e' y → x = y := by
 intro x y hxy
 simp only [Vm, List.cons.injEq, Prod.mk.injEq, true_and, and_true] at hxy
 exact Prod.ext (h.inj _ _ hxy.1) (h'.inj _ _ hxy.2)
theorem Mj {α β : Type} {f : α → β} (h : ∀ x y, f x = f y → x = y) : ∀ (xs ys : List α), xs.map f = ys.map f → xs = ys
 | [], [], _ => rfl
 | [], _ :: _, e => by cases e
 | _ :: _, [], e => by cases e
 | x :: xs, y :: ys, e => by
  simp only [zC3, List.cons.injEq] at e
  rw [h _ _ e.1, Mj h _ _ e.2]
theorem Re {f : FuncId} {g : List (Bool × List T) → Option T} (hf : AG P f = true) (hclo : ∀ ar t, g ar = some t → Av P f (ar.map QN) [] (one t)) {w : World} {S : Nat → Prop} {v : Value} (h : Hj P w (G0 S) v (.e (.one (.fnc f)))) : Hj P w (G0 S) v (.e (.one (.clo g))) := by
 refine ⟨f, #[], h, ?_, ?_⟩
 ·unfold AG at hf
  split at hf
  ·rename_i fn h0
   simp only [zA4, zH4] at hf
   exact ⟨fn, h0, hf.2, hf.1⟩
  ·cases hf
 ·intro w' S' _ _ hlt hgk vs ar r0 hvs has hgr
  refine (hclo ar r0 hgr w' S' (vs ++ #[]) hlt hgk (by simp [hvs]) ?_).mono ?_
  ·intro j d hj
   rw [zA6] at hj
   cases hx0 : ar[j]? with
   | none => rw [hx0] at hj; cases hj
   | some y =>
    rw [hx0] at hj; cases hj
    rw [Array.append_empty]
    exact WZ (has j y hx0)
  ·rintro e w'' ⟨v, G', rfl, hbel, h1, h2, h3, _⟩
   exact ⟨v, G'.S, rfl, hbel, h1, h2, h3⟩
def af (P : Program) : List D → List D → Prop
 | [], [] => True
 | a :: ar, b :: bs => (∀ (w : World) (S : Nat → Prop) (v : Value), Hj P w (G0 S) v a → Hj P w (G0 S) v b) ∧ af P ar bs
 | _, _ => False
theorem af.get : ∀ {ar bs : List D}, af P ar bs → ar.length = bs.length ∧ ∀ (j : Nat) (b : D), bs[j]? = some b → ∃ a, ar[j]? = some a ∧ ∀ (w : World) (S : Nat → Prop) (v : Value), Hj P w (G0 S) v a → Hj P w (G0 S) v b
 | [], [], _ => ⟨rfl, fun j b h => by simp at h⟩
 | a :: ar, b :: bs, h => by
  obtain ⟨h1, h2⟩ := af.get h.2
  refine ⟨by simp [h1], fun j c hj => ?_⟩
  cases j with
  | zero => simp at hj; subst hj; exact ⟨a, rfl, h.1⟩
  | succ j => obtain ⟨a', g1, g2⟩ := h2 j c (by simpa using hj); exact ⟨a', by simpa using g1, g2⟩
theorem Av.weak {f : FuncId} {ds ds' : List D} {rv : List (Nat × List (List T))} {res : D} (h : Av P f ds rv res) (hp : af P ds' ds) : Av P f ds' rv res := by
 intro w S vs hS hgk hlen hargs
 obtain ⟨h1, h2⟩ := hp.get
 refine h w S vs hS hgk (by rw [hlen, h1]) fun j d hj => ?_
 obtain ⟨a, g1, g2⟩ := h2 j d hj
 exact g2 w S _ (hargs j a g1)
section run
variable {dr : Bool} {Q : St → Prop} {r i : Nat} {st : St} {log : List (Nat × CM)} {o : Oper} {gs : List (Operand × D)}
theorem Tc {f : FuncId} (h : AG P f = true) : ∃ fn, P.funcs[f]? = some fn ∧ fn.body.isSome = true ∧ (fn.name == "runtime.NumGoroutine") = false := by
 unfold AG at h
 split at h
 ·rename_i fn hf
  simp only [zA4, zH4] at h
  exact ⟨fn, hf, h.2, h.1⟩
 ·cases h
theorem J9 {f : FuncId} {s : Nat} {xs : List Operand} {capD : List D} (g : List (Bool × List T) → Option T) (hat : At st.env ops i X.n (.makeFunc (.func f) #[] xs.toArray) s gs)
  (hf : AG P f = true) (hl : xs.length = capD.length) (hx : F2 st.env (H4 xs capD)) (hpub : capD.all Sn = true)
  (hclo : ∀ ar t, g ar = some t → Av P f (ar.map QN ++ capD) [] (one t))
  (next : A8 P X ops dr Q r (i + 1) (CM.upd ⟨gs ++ H4 xs capD, [], some s, some (.e (.one (.clo g))), [], []⟩ st) ((i, ⟨gs ++ H4 xs capD, [], some s, some (.e (.one (.clo g))), [], []⟩) :: log)) : A8 P X ops dr Q (r + 1) i st log := by
 obtain ⟨o, ho, hop, hd, hn, hg, hgp⟩ := hat.out
 refine A8.step next ⟨Ak.2 ⟨hgp, hx⟩, trivial, trivial⟩ (LR.value ho hg rfl hd.symm (Dx hd hn) ?_)
 intro G st a w hs hpre
 have hx := (Ak.1 hpre.r).2
 refine ⟨.func (.func f) #[] (xs.toArray.map a.eval), w, G, ?_, hs, ?_⟩
 ·simp only [execOp, hop]
  exact Aj (a := .func (.func f) #[] (xs.toArray.map a.eval)) (w1 := w) (by simp [Instr.makeFunc]) rfl
 ·rintro d ⟨⟩
  refine ⟨⟨f, _, rfl, Tc hf, ?_⟩, fun b hb => by cases hb⟩
  intro w' S' hS' hw' hlt hgk vs ar r0 hvs has hgr
  refine (hclo ar r0 hgr w' S' (vs ++ xs.toArray.map a.eval) hlt hgk (by simp [hvs, hl]) ?_).mono ?_
  ·intro j d hj
   by_cases hja : j < ar.length
   ·rw [zC4 (by simpa using hja), zA6] at hj
    have hx0 : ar[j]? = some ar[j] := by simp [hja]
    rw [hx0] at hj; cases hj
    rw [CA (by omega)]
    exact WZ (has j _ hx0)
   ·rw [zD0 (by simp; omega)] at hj
    simp only [zC2] at hj
    have hlt' := AC hj
    have hxj : xs[j - ar.length]? = some (xs[j - ar.length]'(by omega)) := by simp [show j - ar.length < xs.length from by omega]
    have hop' := JU hl hx _ _ d hxj hj
    have hcell : Aw (vs ++ xs.toArray.map a.eval) j = a.eval (xs[j - ar.length]'(by omega)) := by
     unfold Aw
     rw [Array.getElem?_append_right (by omega), hvs]
     simp [show j - ar.length < xs.length from by omega]
    rw [hcell]
    have hcl : d.names = [] := by
     have := zA5.1 hpub d (lM hj)
     simpa [Sn] using this
    exact ((hs.opd hop').mono (p := fun _ => False) (G' := G0 S') ⟨hS', fun _ h => h.elim, fun _ h => h.elim, fun _ h => h.elim⟩ hw' (fun b hb => by rw [hcl] at hb; cases hb))
  ·rintro e w'' ⟨v, G', rfl, hbel, h1, h2, h3, _⟩
   exact ⟨v, G'.S, rfl, hbel, h1, h2, h3⟩
theorem J8 {x : Operand} {g : List (Bool × List T) → Option T} {s : Nat} {xs : List Operand} {ds0 : List D} {ar : List (Bool × List T)} {r0 : T} {ts : Array TypeId} (hat : At st.env ops i X.n (.call ⟨.value x, xs.toArray, ts⟩) s gs)
  (hgx : opd st.env x = some (.e (.one (.clo g)))) (hl : xs.length = ds0.length) (hx : F2 st.env (H4 xs ds0)) (hds : ds0.map D.nrm = ar.map QN) (_hpub : (ar.map QN).all Sn = true) (hok : ar.all Yz = true) (hr : g ar = some r0)
  (next : A8 P X ops dr Q r (i + 1) (CM.upd ⟨gs ++ ((x, .e (.one (.clo g))) :: H4 xs ds0), [], some s, some (one r0), [], []⟩ st) ((i, ⟨gs ++ ((x, .e (.one (.clo g))) :: H4 xs ds0), [], some s, some (one r0), [], []⟩) :: log)) : A8 P X ops dr Q (r + 1) i st log := by
 obtain ⟨o, ho, hop, hd, hn, hg, hgp⟩ := hat.out
 refine A8.step next ⟨Ak.2 ⟨hgp, hgx, hx⟩, trivial, trivial⟩ ?_
 intro st a w K Q' hs hpre hK
 obtain ⟨G, hs⟩ := hs
 obtain ⟨hgx, hx⟩ := (Ak.1 hpre.r).2
 have hw := hs.wanted hg (Ak.1 hpre.r).1
 unfold wpOp
 rw [ho]
 simp only [hw, if_true]
 refine .inl ?_
 unfold Oper.wp
 obtain ⟨f, caps, hv, ⟨fn, hf1, hf2, hf3⟩, hcall⟩ : NN P w G.S (a.eval x) g := hs.opd hgx
 have hgood : AG P f = true := by unfold AG; rw [hf1]; simp [hf2]; simpa using hf3
 have hrun : (execOp a.eval o).run P w = .ok (.enter f (xs.toArray.map a.eval ++ caps)) w := by
  simp only [execOp, hop]
  simp only [resolve, hv, Deferred.ofValue]
  refine Aj (a := { target := .fn (.func f) caps, args := #[] ++ xs.toArray.map a.eval }) (w1 := w) rfl ?_
  simp only [invoke]
  rw [IQ hgood]; simp
 rw [hrun]
 show Calls P f (xs.toArray.map a.eval ++ caps) w _
 have hlen : xs.length = ar.length := by
  have := congrArg zH1 hds
  simp at this; omega
 refine (hcall w G.S (fun _ h => h) (fun _ _ => rfl) hs.S_lt hs.gok (xs.toArray.map a.eval) ar r0 (by simp [hlen]) ?_ hr).mono ?_
 ·intro j y hj
  have hlt := AC hj
  have hd0 : ds0[j]? = some (ds0[j]'(by omega)) := by simp [show j < ds0.length from by omega]
  have hnrm : (ds0[j]'(by omega)).nrm = QN y := by
   have h1 : (ds0.map D.nrm)[j]? = (ar.map QN)[j]? := by rw [hds]
   rw [zA6, zA6, hd0, hj] at h1
   simpa using h1
  have hxj : xs[j]? = some (xs[j]'(by omega)) := by simp [show j < xs.length from by omega]
  have hop' := JU hl hx j _ _ hxj hd0
  have hcell : Aw (xs.toArray.map a.eval) j = a.eval (xs[j]'(by omega)) := by simp [Aw, show j < xs.length from by omega]
  rw [hcell]
  have hrd := (hs.opd hop').nrm
  rw [hnrm] at hrd
  exact Zw hrd (fun _ h => h) (zA5.1 hok y (lM hj))
 ·rintro e w' ⟨v, S'', rfl, hbel, hS1, hS2, hres⟩
  show K (a.put o.dst v) w'
  rw [hd]
  let G2 : Gh := { G with S := S'' }
  have hsz := hbel.size
  have hle := hs.below.size
  have key : C5 P X G2 ⟨st.env, Bj st.bx []⟩ a w' := by
   refine hs.frame (fun c hc => hc) ⟨hS1, fun _ _ => rfl, fun _ _ => rfl, fun _ _ => rfl⟩ (fun β hβ => hbel.block β (hs.S_lt β hβ)) ?_ ?_ ?_ ?_ ?_ (hs.below.trans (.of (hbel.mono hle))) (fun _ _ => ⟨rfl, rfl, rfl⟩)
   ·intro c k hc
    exact .inl ⟨hc, fun β hr hβ => hbel.block β (hs.at_ok c k β hc hr hβ).2.1⟩
   ·intro c k β hc hr hβ
    have := hs.at_ok c k β hc hr hβ
    refine ⟨this.1, by omega, fun h => ?_⟩
    rcases hS2 β h with h | h
    ·exact this.2.2 h
    ·omega
   ·intro c c' k k' β hc hc' hr hr' hβ hβ'
    exact hs.at_inj c c' k k' β hc hc' hr hr' hβ hβ'
   ·intro β h
    rcases hS2 β h with h | h
    ·have := hs.S_lt β h; omega
    ·exact h.2
   ·intro β h
    rcases hS2 β h with h | h
    ·exact hs.S_src β h
    ·exact .inr (by omega)
  refine hK _ _ ⟨G2, key.put (some s) (some (one r0)) v (by intro t e; cases e; exact hn) ?_⟩
  rintro d ⟨⟩
  exact ⟨hres, fun b hb => by cases hb⟩
end run
end Go.Lift
namespace Go.Lift
open Go.RowKit Go.ChangeShapes Go.WideShapes
section
variable {P : Program}
def MC (P : Program) : Nat → List Field → Nat → Bool
 | o, [], n => o == n
 | o, f :: fs, n => f.offset == o && MC P (o + P.cellsOf f.type) fs n
def JI (P : Program) : Nat → TypeId → Bool
 | 0, _ => false
 | d + 1, t => match P.underlying t with
  | some (.int _) => true
  | some .bool => true
  | some .string => true
  | some (.slice e) => decide (0 < P.cellsOf e) && JI P d e
  | some (.struct fs) => MC P 0 fs.toList (P.cellsOf t) && fs.toList.all fun f => JI P d f.type
  | _ => false
def Ye (F : TypeId → List T → Prop) : List TypeId → List T → Prop
 | [], ts => ts = []
 | t :: tys, ts => ∃ a b, ts = a ++ b ∧ F t a ∧ Ye F tys b
def KY (P : Program) : Nat → TypeId → List T → Prop
 | 0, _, _ => False
 | d + 1, t, ts => match P.underlying t with
  | some (.int k) => ∃ n, ts = [.val (.int k n)] ∧ (Lit.int k n).wf = true
  | some .bool => ∃ b, ts = [.val (.bool b)]
  | some .string => ∃ s, ts = [.val (.string s)]
  | some (.slice e) => ∃ rows, ts = [.sl rows] ∧ ∀ row, row ∈ rows → KY P d e row
  | some (.struct fs) => Ye (KY P d) (fs.toList.map (·.type)) ts
  | _ => False
def IA (w : World) (S : Nat → Prop) : List Value → List T → Prop
 | [], [] => True
 | v :: vs, t :: ts => Ea w S v t ∧ IA w S vs ts
 | _, _ => False
theorem IA.append {w : World} {S : Nat → Prop} : ∀ {a b : List Value} {x y : List T}, IA w S a x → IA w S b y → IA w S (a ++ b) (x ++ y)
 | [], _, [], _, _, h => h
 | _ :: _, _, _ :: _, _, h1, h2 => ⟨h1.1, IA.append h1.2 h2⟩
theorem IA.len {w : World} {S : Nat → Prop} : ∀ {a : List Value} {x : List T}, IA w S a x → a.length = x.length
 | [], [], _ => rfl
 | _ :: _, _ :: _, h => by simp [h.2.len]
theorem IA.get {w : World} {S : Nat → Prop} : ∀ {a : List Value} {x : List T}, IA w S a x → ∀ (j : Nat) (t : T), x[j]? = some t → ∃ v, a[j]? = some v ∧ Ea w S v t
 | [], [], _, j, t, hj => by simp at hj
 | v :: _, _ :: _, h, 0, t, hj => by simp at hj; subst hj; exact ⟨v, rfl, h.1⟩
 | _ :: _, _ :: _, h, j + 1, t, hj => by
  obtain ⟨v, h1, h2⟩ := h.2.get j t (by simpa using hj)
  exact ⟨v, by simpa using h1, h2⟩
theorem Nz {α : Type} {p : Nat → α → Prop} : ∀ (n : Nat), (∀ i, i < n → ∃ x, p i x) → ∃ l : List α, l.length = n ∧ ∀ i x, l[i]? = some x → p i x
 | 0, _ => ⟨[], rfl, fun i x h => by simp at h⟩
 | n + 1, h => by
  obtain ⟨l, h1, h2⟩ := Nz n (fun i hi => h i (by omega))
  obtain ⟨x, hx⟩ := h n (by omega)
  refine ⟨l ++ [x], by simp [h1], fun i y hi => ?_⟩
  by_cases hlt : i < l.length
  ·rw [zC4 hlt] at hi; exact h2 i y hi
  ·rw [zD0 (by omega)] at hi
   have : i - l.length = 0 := by
    have := AC hi
    simp at this; omega
   rw [this] at hi
   simp at hi; subst hi
   have : i = n := by omega
   subst this; exact hx
theorem KI {α : Type} {f : Nat → Option α} : ∀ {n : Nat} {l : List α}, (zB1 n).mapM f = some l → l.length = n ∧ ∀ i, i < n → f i = l[i]? := by
 intro n l h
 have h1 := mapM_some_length h
 refine ⟨by simpa using h1, fun i hi => ?_⟩
 exact mapM_some_get h i i (by simp [hi])
theorem Sm {w : World} {b o : Nat} {v : Value} (h : w.cell? ⟨b, o, none⟩ = some v) : ∃ arr el fz, w.heap[b]? = some (.cells arr el fz) ∧ arr[o]? = some v := by
 unfold World.cell? at h
 split at h
 ·rename_i c el fz hc
  exact ⟨c, el, fz, hc, by simpa using h⟩
 ·cases h
theorem X6 {w : World} {b : Nat} {o : Obj} (h : w.heap[b]? = some o) : b < w.heap.size := by
 rcases zD6 b w.heap.size with h1 | h1
 ·exact h1
 ·rw [zE2 h1] at h; cases h
abbrev Vo (w : World) : Nat → Prop := fun β => β < w.heap.size
theorem Qd {H : Type} {enc : TypeId × Value → H} {w : World} {sp : Nat → Bool} {held : Bool} {n d : Nat} {cs : List Value}
  (ih : ∀ (t : TypeId) (cs : List Value) (x : DataW H × List MemPlace), JI P d t = true → DataW.trod enc P w 0 sp held n t cs = some x → ∃ ts, IA w (Vo w) cs ts ∧ KY P d t ts) :
  ∀ (fs : List Field) (o : Nat), MC P o fs cs.length = true → (fs.all fun f => JI P d f.type) = true →
   (∀ f, f ∈ fs → ∃ x, DataW.trod enc P w 0 sp held n f.type ((cs.drop f.offset).take (P.cellsOf f.type)) = some x) →
   ∃ ts, IA w (Vo w) (cs.drop o) ts ∧ Ye (KY P d) (fs.map (·.type)) ts
 | [], o, hc, _, _ => by
  simp only [MC, beq_iff_eq] at hc
  refine ⟨[], ?_, rfl⟩
  rw [zB3 (by omega)]; trivial
 | f :: fs, o, hc, hp, hx => by
  simp only [MC, zA4, beq_iff_eq] at hc
  simp only [zG3, zA4] at hp
  obtain ⟨x, hx0⟩ := hx f (by simp)
  rw [hc.1] at hx0
  obtain ⟨ts, h1, h2⟩ := ih _ _ _ hp.1 hx0
  obtain ⟨us, h3, h4⟩ := Qd ih fs _ hc.2 hp.2 (fun g hg => hx g (by simp [hg]))
  refine ⟨ts ++ us, ?_, ⟨ts, us, rfl, h2, h4⟩⟩
  have : cs.drop o = (cs.drop o).take (P.cellsOf f.type) ++ cs.drop (o + P.cellsOf f.type) := by
   rw [← zH5, List.take_append_drop]
  rw [this]
  exact h1.append h3
theorem Ro {H : Type} {enc : TypeId × Value → H} {w : World} {sp : Nat → Bool} {held : Bool} : ∀ (d fuel : Nat) (t : TypeId) (cs : List Value) (x : DataW H × List MemPlace), JI P d t = true → DataW.trod enc P w 0 sp held fuel t cs = some x → ∃ ts, IA w (Vo w) cs ts ∧ KY P d t ts
 | 0, _, _, _, _, hp, _ => by cases hp
 | d + 1, fuel, t, cs, x, hp, hx => by
  unfold JI at hp
  unfold KY
  split at hp
  ·rename_i k hu
   obtain ⟨n, rfl, _, hw⟩ := DataW.trod_int hu hx
   exact ⟨[.val (.int k n)], ⟨.val _ rfl, trivial⟩, n, rfl, hw⟩
  ·rename_i hu
   obtain ⟨b, rfl, _⟩ := DataW.trod_bool hu hx
   exact ⟨[.val (.bool b)], ⟨.val _ rfl, trivial⟩, b, rfl⟩
  ·rename_i hu
   obtain ⟨b, rfl, _⟩ := DataW.trod_string hu hx
   exact ⟨[.val (.string b)], ⟨.val _ rfl, trivial⟩, b, rfl⟩
  ·rename_i e hu
   simp only [zA4, decide_eq_true_eq] at hp
   rcases DataW.trod_slice hu hx with ⟨rfl, _⟩ | ⟨a, len, cap, elems, rest, n, rfl, rfl, _, _, hl, _, hlen, hel, _, _⟩
   ·exact ⟨[.sl []], ⟨.nil none 0, trivial⟩, [], rfl, fun row h => by cases h⟩
   ·have hrow : ∀ i, i < len → ∃ row, ∃ csi, w.cells? 0 (a.add (i * P.cellsOf e)) (P.cellsOf e) = some csi ∧ IA w (Vo w) csi row ∧ KY P d e row := by
     intro i hi
     have h1 := hel i hi
     have h2 : elems[i]? = some (elems[i]'(by omega)) := by simp [show i < elems.length from by omega]
     rw [h2] at h1
     obtain ⟨csi, h3, h4⟩ := Option.bind_eq_some_iff.1 h1
     obtain ⟨row, h5, h6⟩ := Ro d n e csi _ hp.2 h4
     exact ⟨row, csi, h3, h5, h6⟩
    obtain ⟨rows, hrl, hrows⟩ := Nz len hrow
    subst hrl
    refine ⟨[.sl rows], ⟨?_, trivial⟩, rows, rfl, fun row hm => ?_⟩
    ·cases hr0 : rows with
     | nil => exact .nil _ _
     | cons r0 rs0 =>
      rw [← hr0]
      have hpos : 0 < rows.length := by rw [hr0]; simp
      -- each cell
      have hcell : ∀ (i : Nat) (row : List T) (j : Nat) (u : T), rows[i]? = some row → row[j]? = some u → j < P.cellsOf e ∧ ∃ v, w.cell? ((a.add (i * P.cellsOf e)).add j) = some v ∧ Ea w (Vo w) v u := by
       intro i row j u hi hj
       obtain ⟨csi, h1, h2, _⟩ := hrows i row hi
       obtain ⟨v, h3, h4⟩ := h2.get j u hj
       unfold World.cells? at h1
       rw [if_pos (zB2 _)] at h1
       obtain ⟨h5, h6⟩ := KI h1
       have hjl : j < P.cellsOf e := by have := AC h3; omega
       exact ⟨hjl, v, by rw [h6 j hjl, h3], h4⟩
      have hrlen : ∀ (i : Nat) (row : List T), rows[i]? = some row → row.length = P.cellsOf e := by
       intro i row hi
       obtain ⟨csi, h1, h2, _⟩ := hrows i row hi
       unfold World.cells? at h1
       rw [if_pos (zB2 _)] at h1
       obtain ⟨h5, _⟩ := KI h1
       rw [← h2.len, h5]
      have hget : ∀ i (hi : i < rows.length), rows[i]? = some (rows[i]'hi) := fun i hi => by simp [hi]
      have hr00 := hget 0 hpos
      have hl0 := hrlen 0 _ hr00
      obtain ⟨_, v0, hv0, _⟩ := hcell 0 _ 0 ((rows[0]'hpos)[0]'(by omega)) hr00 (by simp)
      have hadd0 : (a.add (0 * P.cellsOf e)).add 0 = a := by simp [Addr.add]
      rw [hadd0] at hv0
      have hspot := World.cell?_spot hv0
      obtain ⟨β, off, spot⟩ := a
      simp only at hspot
      subst hspot
      obtain ⟨arr, el, fz, hb, _⟩ := Sm hv0
      have hadd : ∀ i j : Nat, ((⟨β, off, none⟩ : Addr).add (i * P.cellsOf e)).add j = ⟨β, off + i * P.cellsOf e + j, none⟩ := by
       intro i j
       unfold Addr.add
       split
       ·rename_i h1
        split
        ·rename_i h2; rw [h2]; simp
        ·rename_i h2; simp only [Addr.mk.injEq, true_and, and_true]; omega
       ·split <;> simp_all <;> omega
      have hat : ∀ (i : Nat) (row : List T) (j : Nat) (u : T), rows[i]? = some row → row[j]? = some u → off + i * P.cellsOf e + j < arr.size ∧ Ea w (Vo w) (Aw arr (off + i * P.cellsOf e + j)) u := by
       intro i row j u hi hj
       obtain ⟨_, v, h1, h2⟩ := hcell i row j u hi hj
       rw [hadd] at h1
       obtain ⟨arr', el', fz', h3, h4⟩ := Sm h1
       rw [hb] at h3; cases h3
       have hlt : off + i * P.cellsOf e + j < arr.size := by
        rcases zD6 (off + i * P.cellsOf e + j) arr.size with h | h
        ·exact h
        ·rw [zE2 h] at h4; cases h4
       refine ⟨hlt, ?_⟩
       have : Aw arr (off + i * P.cellsOf e + j) = v := by unfold Aw; rw [h4]; rfl
       rw [this]; exact h2
      refine .sl β off cap (P.cellsOf e) arr el fz rows (X6 hb) hb hl ?_ hrlen (fun i row j u hi hj => (hat i row j u hi hj).2)
      have hil := hget (rows.length - 1) (by omega)
      have hll := hrlen _ _ hil
      have h7 := (hat (rows.length - 1) _ (P.cellsOf e - 1) ((rows[rows.length - 1]'(by omega))[P.cellsOf e - 1]'(by omega)) hil (by simp)).1
      have h8 : rows.length * P.cellsOf e = (rows.length - 1) * P.cellsOf e + P.cellsOf e := by
       rw [← zC7]; congr 1; omega
      omega
    ·obtain ⟨i, hi⟩ := zA8.1 hm
     obtain ⟨_, _, _, h⟩ := hrows i row hi
     exact h
  ·rename_i fs hu
   simp only [zA4] at hp
   obtain ⟨xs, n, rfl, _, hcl, hxl, hf⟩ := DataW.trod_struct hu hx
   have := Qd (enc := enc) (sp := sp) (held := held) (cs := cs) (fun t cs x h1 h2 => Ro d n t cs x h1 h2) fs.toList 0 (by rw [hcl]; exact hp.1) hp.2 (fun f hm => by
    obtain ⟨i, hi⟩ := zA8.1 hm
    have hi' : fs[i]? = some f := by simpa using hi
    have h1 := hf i f hi'
    have hlt : i < fs.size := by
     have := AC hi
     simpa using this
    exact ⟨xs[i]'(by omega), by rw [h1]; simp [show i < xs.length from by omega]⟩)
   simpa using this
  ·cases hp
end
end Go.Lift
namespace Go.Lift
open Go.RowKit Go.ChangeShapes Go.WideShapes
section
variable {P : Program}
def ZN (P : Program) (t : TypeId) (us : List T) : D := match P.underlying t with
 | some (.struct _) => .e (.agg (us.map .pure))
 | _ => .e (.one (.pure (us.headD .nil0)))
def Kn (P : Program) (d : Nat) : List TypeId → List D → Prop
 | [], [] => True
 | t :: ts, x :: xs => (∃ us, KY P d t us ∧ x = ZN P t us) ∧ Kn P d ts xs
 | _, _ => False
theorem ZA {H : Type} {enc : TypeId × Value → H} {w : World} {d base : Nat} {t : TypeId} {v : Value} {x : DataW H} {ps : List MemPlace} (hp : JI P d t = true) (hval : Value.okWide P w .any base t v) (h : DataW.Trod enc P w 0 (fun _ => true) true t v x ps) :
  ∃ us, KY P d t us ∧ Hj P w (G0 (Vo w)) v (ZN P t us) := by
 obtain ⟨fuel, hf⟩ := h
 obtain ⟨us, h1, h2⟩ := Ro d fuel t _ _ hp hf
 refine ⟨us, h2, ?_⟩
 have single : ∀ (v : Value), v.cells.toList = [v] → IA w (Vo w) v.cells.toList us → Hj P w (G0 (Vo w)) v (.e (.one (.pure (us.headD .nil0)))) := by
  intro v hv hr
  rw [hv] at hr
  match us, hr with
  | [u], hr => exact hr.1
 unfold ZN
 cases d with
 | zero => cases hp
 | succ d =>
  unfold JI at hp
  split at hp
  ·rename_i k hu
   rw [hu]
   obtain ⟨n, rfl⟩ := okWide_int hu hval
   exact single _ rfl h1
  ·rename_i hu
   rw [hu]
   obtain ⟨n, rfl⟩ := okWide_bool hu hval
   exact single _ rfl h1
  ·rename_i hu
   rw [hu]
   obtain ⟨n, rfl⟩ := okWide_string hu hval
   exact single _ rfl h1
  ·rename_i e hu
   rw [hu]
   obtain ⟨a, len, cap, rfl⟩ := okWide_slice hu hval
   exact single _ rfl h1
  ·rename_i fs hu
   rw [hu]
   simp only [Value.okWide, hu] at hval
   obtain ⟨cs, rfl, _, _⟩ := hval
   have h1 : IA w (Vo w) cs.toList us := h1
   refine ⟨cs, rfl, by simpa using h1.len, fun j c hj => ?_⟩
   rw [zA6] at hj
   cases hx : us[j]? with
   | none => rw [hx] at hj; cases hj
   | some u =>
    rw [hx] at hj; cases hj
    obtain ⟨v, h3, h4⟩ := h1.get j u hx
    have : Aw cs j = v := by unfold Aw; rw [show cs[j]? = some v from by simpa using h3]; rfl
    rw [this]; exact h4
  ·cases hp
theorem T4 {H : Type} {enc : TypeId × Value → H} {w : World} {d base : Nat} : ∀ {ts : List TypeId} {vs : List Value} {ds : List (DataW H)} {ps : List MemPlace}, (ts.all (JI P d)) = true → (∀ (j : Nat) t v, ts[j]? = some t → vs[j]? = some v → Value.okWide P w .any base t v) →
  DataW.TrodAll enc P w 0 (fun _ => true) true ts vs ds ps → ∃ Ds, Kn P d ts Ds ∧ vs.length = Ds.length ∧ ds.length = ts.length ∧ ∀ (j : Nat) (x : D), Ds[j]? = some x → ∃ v, vs[j]? = some v ∧ Hj P w (G0 (Vo w)) v x
 | [], [], [], _, _, _, _ => ⟨[], trivial, rfl, rfl, fun j x h => by simp at h⟩
 | t :: ts, v :: vs, x :: xs, _, hp, hval, h => by
  obtain ⟨p, q, h1, h2, _⟩ := h
  simp only [zG3, zA4] at hp
  obtain ⟨us, h3, h4⟩ := ZA hp.1 (hval 0 t v rfl rfl) h1
  obtain ⟨Ds, h5, h6, h7, h8⟩ := T4 hp.2 (fun j t v hj hv => hval (j + 1) t v (by simpa using hj) (by simpa using hv)) h2
  refine ⟨ZN P t us :: Ds, ⟨⟨us, h3, rfl⟩, h5⟩, by simp [h6], by simp [h7], fun j y hj => ?_⟩
  cases j with
  | zero => simp at hj; subst hj; exact ⟨v, rfl, h4⟩
  | succ j =>
   obtain ⟨v', g1, g2⟩ := h8 j y (by simpa using hj)
   exact ⟨v', by simpa using g1, g2⟩
 | [], [], _ :: _, _, _, _, h => h.elim
 | [], _ :: _, _, _, _, _, h => by cases ‹List (DataW H)› <;> exact h.elim
 | _ :: _, [], _, _, _, _, h => by cases ‹List (DataW H)› <;> exact h.elim
 | _ :: _, _ :: _, [], _, _, _, h => h.elim
theorem LH {H : Type} {enc : TypeId × Value → H} (hl : laidOutB P = true) {W W' : World} (hb : Below W.heap.size W W') : ∀ {ts : List TypeId} {vs : List Value} {ds : List (DataW H)} {ps : List MemPlace}, (ts.all fun t => P.readableRec t && decide (t < P.types.size)) = true →
  DataW.TrodAll enc P W 0 (fun _ => true) true ts vs ds ps → (∀ x ∈ ps, x.block < W.heap.size) → DataW.TrodAll enc P W' 0 (fun b => decide (b < W.heap.size)) true ts vs ds ps
 | [], [], [], _, _, h, _ => h
 | t :: ts, v :: vs, x :: xs, _, hr, h, hlt => by
  obtain ⟨p, q, h1, h2, rfl⟩ := h
  simp only [zG3, zA4, decide_eq_true_eq] at hr
  refine ⟨p, q, Below.trod hl hr.1.1 hr.1.2 h1 hb (fun y hy => hlt y (by simp [hy])), LH hl hb (by simpa using hr.2) h2 (fun y hy => hlt y (by simp [hy])), rfl⟩
 | [], [], _ :: _, _, _, h, _ => h.elim
 | [], _ :: _, _, _, _, h, _ => by cases ‹List (DataW H)› <;> exact h.elim
 | _ :: _, [], _, _, _, h, _ => by cases ‹List (DataW H)› <;> exact h.elim
 | _ :: _, _ :: _, [], _, _, h, _ => h.elim
def W0 (P : Program) : Bool := Ph.all fun x => (P.globalNamed x.1).isNone
theorem WW (h : W0 P = true) (w : World) (S : Nat → Prop) : YT P w S := fun x hx g hg => by
 have := zA5.1 h x hx
 rw [hg] at this; cases this
theorem TF {H : Type} {enc : TypeId × Value → H} {C : Checked} {os : Os} {f : FuncId} {fn : Func} {s : ChangeSpec} {conds : List PathCond} {tb : TypeId} {d : Nat}
  (own : ownKnob C.prog.godebug = none) (started : os.Started) (noInit : C.prog.inits.idxOf? f = none) (hfn : C.prog.funcs[f]? = some fn)
  (witness : ∃ (w : World) (tape : Tape) (i : Input), w.os = os ∧ (w.forCall tape i).Shaped C.prog ∧ i.vars = [] ∧ Input.okWide C.prog (w.forCall tape i) .any w.heap.size f i ∧
   s.pre6 enc C.prog fn conds false (w.forCall tape i).memory i.args ∧ ({} : Assume).holds C.prog (lone (Frame.enter C.prog f i.args .normal) [] (w.forCall tape i)))
  (hv : s.vars = []) (hs : ∀ ds : List (DataW H), ds.length = fn.params.toList.length → s.fn H (ds ++ []) = { results := [.lit (.bool true)], args := ds })
  (hres : fn.resultTypes = #[tb]) (htb : C.prog.underlying tb = some .bool) (hl : laidOutB C.prog = true)
  (hread : (fn.params.toList.all fun t => C.prog.readableRec t && decide (t < C.prog.types.size)) = true) (hplain : (fn.params.toList.all (JI C.prog d)) = true)
  (law : ∀ Ds, Kn C.prog d fn.params.toList Ds → Av C.prog f Ds [] (.e (.one (.pure (.val (.bool true)))))) (hg0 : W0 C.prog = true := by kernel_rfl) :
  ReturnsInHanded {} C os f .any (s.pre6 enc C.prog fn conds false) (s.post enc C.prog fn false true false false) := by
 refine returnsInHanded_of_change own started noInit hfn witness ?_
 intro W base args ds gs before hval hW _ _
 have hW' := hW
 obtain ⟨p, q, hA, hV, rfl, _, _⟩ := hW
 rw [hv] at hV
 obtain ⟨rfl, rfl⟩ := trodVars_none hV
 obtain ⟨Ds, h1, h2, h3, h4⟩ := T4 hplain (fun j t v hj hvj => hval j t v (by simpa using hj) (by simpa using hvj)) hA
 have hlt : ∀ x ∈ p, x.block < W.heap.size := fun x hx => hW'.lt x (by simp [hx])
 refine (law Ds h1 W (Vo W) args (fun β h => h) (WW hg0 W _) (by simpa using h2) ?_).mono ?_
 ·intro j x hj
  obtain ⟨v, g1, g2⟩ := h4 j x hj
  have : Aw args j = v := by unfold Aw; rw [show args[j]? = some v from by simpa using g1]; rfl
  rw [this]; exact g2
 ·rintro e W' ⟨v, G', rfl, hb, _, _, hr, _⟩
  have hvb : v = .bool true := by
   have h5 : Ea W' G'.S v (.val (.bool true)) := hr
   cases h5; rfl
  subst hvb
  refine ⟨_, rfl, ds, [], p ++ [], [], p, [], hW', ?_, ?_, ?_, hb.frame _, fun h => by cases h⟩
  ·rw [hs ds h3, hres]
   exact trodAll_mk1 (shut_bool htb true)
  ·rw [hs ds h3]
   exact LH hl hb.toBelow hread hA hlt
  ·rw [hs ds h3, hv]
   rfl
end
end Go.Lift
namespace Go.Lift
open Go.RowKit
section
variable {P : Program}
def Vl {α : Type} (P : Program) (t : TypeId) (e : α → List T) (W : α → Prop) : Prop := ∀ (d : Nat) (ts : List T), KY P d t ts → ∃ x, ts = e x ∧ W x
theorem UD {t : TypeId} {k : IntKind} {e : Int → List T} (h : PJ P t k = true) (he : ∀ n, e n = [.val (.int k n)]) : Vl P t e (fun n => (Lit.int k n).wf = true) := by
 intro d ts hf
 cases d with
 | zero => exact hf.elim
 | succ d =>
  unfold PJ at h
  unfold KY at hf
  split at h
  ·rename_i k' hu
   rw [hu] at hf
   obtain ⟨n, rfl, hw⟩ := hf
   have : k' = k := by simpa using h
   subst this
   exact ⟨n, (he n).symm, hw⟩
  ·cases h
theorem WC {t : TypeId} {e : Bool → List T} (h : YJ P t = true) (he : ∀ n, e n = [.val (.bool n)]) : Vl P t e (fun _ => True) := by
 intro d ts hf
 cases d with
 | zero => exact hf.elim
 | succ d =>
  unfold YJ at h
  unfold KY at hf
  split at h
  ·rename_i hu
   rw [hu] at hf
   obtain ⟨n, rfl⟩ := hf
   exact ⟨n, (he n).symm, trivial⟩
  ·cases h
theorem O8 {α : Type} {e : α → List T} {W : α → Prop} : ∀ (rows : List (List T)), (∀ row, row ∈ rows → ∃ x, row = e x ∧ W x) → ∃ xs : List α, rows = xs.map e ∧ ∀ x, x ∈ xs → W x
 | [], _ => ⟨[], rfl, fun x h => by cases h⟩
 | r :: rows, h => by
  obtain ⟨x, rfl, hx⟩ := h r (by simp)
  obtain ⟨xs, rfl, hxs⟩ := O8 rows (fun row hr => h row (by simp [hr]))
  exact ⟨x :: xs, rfl, fun y hy => by
   rcases zB0.1 hy with e | e
   ·subst e; exact hx
   ·exact hxs y e⟩
theorem Qk {α : Type} {t el : TypeId} {e : α → List T} {W : α → Prop} {e2 : List α → List T} (h : sliceB P t el = true) (he : Vl P el e W) (h2 : ∀ xs, e2 xs = [.sl (xs.map e)]) : Vl P t e2 (fun xs => ∀ x, x ∈ xs → W x) := by
 intro d ts hf
 cases d with
 | zero => exact hf.elim
 | succ d =>
  unfold sliceB at h
  unfold KY at hf
  split at h
  ·rename_i e' hu
   rw [hu] at hf
   obtain ⟨rows, rfl, hr⟩ := hf
   have : e' = el := by simpa using h
   subst this
   obtain ⟨xs, rfl, hxs⟩ := O8 rows (fun row hm => he d row (hr row hm))
   exact ⟨xs, (h2 xs).symm, hxs⟩
  ·cases h
def JP (P : Program) (t : TypeId) : Option (List TypeId) := match P.underlying t with | some (.struct fs) => some (fs.toList.map (·.type)) | _ => none
theorem Oq {t : TypeId} {tys : List TypeId} (h : JP P t = some tys) {d : Nat} {ts : List T} (hf : KY P d t ts) : ∃ d', Ye (KY P d') tys ts := by
 cases d with
 | zero => exact hf.elim
 | succ d =>
  unfold JP at h
  unfold KY at hf
  split at h
  ·rename_i fs hu
   cases h
   rw [hu] at hf
   exact ⟨d, hf⟩
  ·cases h
theorem TS {t : TypeId} {tys : List TypeId} (h : JP P t = some tys) (us : List T) : ZN P t us = .e (.agg (us.map .pure)) := by
 unfold JP at h
 unfold ZN
 revert h
 cases P.underlying t with
 | none => intro h; cases h
 | some k => cases k <;> intro h <;> first | rfl | cases h
theorem QI {d : Nat} {t : TypeId} {ts : List TypeId} {Ds : List D} (h : Kn P d (t :: ts) Ds) : ∃ us xs, Ds = ZN P t us :: xs ∧ KY P d t us ∧ Kn P d ts xs := by
 cases Ds with
 | nil => exact h.elim
 | cons x xs => obtain ⟨⟨us, h1, rfl⟩, h2⟩ := h; exact ⟨us, xs, rfl, h1, h2⟩
theorem Sq {d : Nat} {Ds : List D} (h : Kn P d [] Ds) : Ds = [] := by
 cases Ds with
 | nil => rfl
 | cons x xs => exact h.elim
end
end Go.Lift
namespace Go.Lift
open List renaming mem_of_getElem? → lM
open List renaming getD_eq_getElem?_getD → lD
open Go.RowKit
variable {P : Program} {X : Im} {ops : Array Oper}
instance : Inhabited BH := ⟨.gone⟩
def I8 (n m b : Nat) : Bool := if Bt b then Nat.blt (b - 90000) n else Nat.blt b m
def Uw (G : Gh) (n : Nat) (β : Nat) : Prop := ∃ k, k < n ∧ G.has (90000 + k) β
theorem I6 {k : Nat} (h : k < 1000) : Bt (90000 + k) = true := by
 unfold Bt
 rw [zH8 (by omega), zH8 (by omega)]; rfl
theorem U6 {k : Nat} (h : k < 900) : Qj (90000 + k) = true := by
 unfold Qj
 rw [zA4]
 exact ⟨zH8 (by omega), zH8 (by omega)⟩
theorem Ka {b : Nat} (h : Bt b = true) : ∃ k, k < 1000 ∧ b = 90000 + k := by
 unfold Bt at h
 rw [zA4] at h
 have h1 := zC8 h.1
 have h2 := zC8 h.2
 exact ⟨b - 90000, by omega, by omega⟩
def Dy (P : Program) (f : FuncId) (args : List D) (lent : List (BH × BH)) (rv : List BH) (res : D) : Prop :=
 ∀ (w : World) (G : Gh) (vs : Array Value), (∀ β, G.S β → β < w.heap.size) → YT P w G.S →
  (∀ (k : Nat) (x : BH × BH), lent[k]? = some x → Eu P w G (90000 + k) x.1) →
  (∀ k β, k < lent.length → G.has (90000 + k) β → β < w.heap.size ∧ ¬ G.S β) →
  (∀ k l β, k < lent.length → l < lent.length → G.has (90000 + k) β → G.has (90000 + l) β → k = l) →
  vs.size = args.length → (∀ (j : Nat) (d : D), args[j]? = some d → Hj P w G (Aw vs j) d) →
  Calls P f vs w fun e w' => ∃ v G', e = .returned v ∧ DB (Uw G lent.length) w.heap.size w w' ∧ (∀ β, G.S β → G'.S β) ∧ (∀ β, G'.S β → G.S β ∨ (w.heap.size ≤ β ∧ β < w'.heap.size)) ∧ Hj P w' G' v res ∧
   (∀ (k : Nat) (x : BH × BH), lent[k]? = some x → Eu P w' G' (90000 + k) x.2) ∧
   (∀ (k : Nat) (x : BH), rv[k]? = some x → Eu P w' G' k x) ∧
   (∀ k, k < lent.length → G'.loc (90000 + k) = G.loc (90000 + k) ∧ G'.hd (90000 + k) = G.hd (90000 + k) ∧ G'.more (90000 + k) = G.more (90000 + k)) ∧
   (∀ k β, k < lent.length → G'.has (90000 + k) β → ¬ G'.S β) ∧
   (∀ k β, k < rv.length → G'.has k β → w.heap.size ≤ β ∧ β < w'.heap.size ∧ ¬ G'.S β) ∧
   (∀ k l β, k < rv.length → l < rv.length → G'.has k β → G'.has l β → k = l)
def QB (args : List D) (lent : List (BH × BH)) : St := ⟨fun s => args[s]?, fun b => if Bt b then (lent[b - 90000]?).map (·.1) else none⟩
def Q0 (bx : Nat → Option BH) (f : Nat → Nat) : Nat → List (BH × BH) → Prop
 | _, [] => True
 | k, x :: xs => bx (90000 + k) = some (x.2.ren f) ∧ Q0 bx f (k + 1) xs
def Tj (bx : Nat → Option BH) (f : Nat → Nat) : Nat → List BH → Prop
 | _, [] => True
 | k, x :: xs => bx (1000 + k) = some (x.ren f) ∧ Tj bx f (k + 1) xs
theorem NK {bx : Nat → Option BH} {f : Nat → Nat} : ∀ {l : List (BH × BH)} {m : Nat}, Q0 bx f m l → ∀ (k : Nat) (x : BH × BH), l[k]? = some x → bx (90000 + (m + k)) = some (x.2.ren f)
 | y :: rv, m, h, 0, x, hk => by simp at hk; subst hk; exact h.1
 | y :: rv, m, h, k + 1, x, hk => by
  have := NK h.2 k x (by simpa using hk)
  rwa [show m + 1 + k = m + (k + 1) from by omega] at this
theorem Pi {bx : Nat → Option BH} {f : Nat → Nat} : ∀ {l : List BH} {m : Nat}, Tj bx f m l → ∀ (k : Nat) (x : BH), l[k]? = some x → bx (1000 + (m + k)) = some (x.ren f)
 | y :: rv, m, h, 0, x, hk => by simp at hk; subst hk; exact h.1
 | y :: rv, m, h, k + 1, x, hk => by
  have := Pi h.2 k x (by simpa using hk)
  rwa [show m + 1 + k = m + (k + 1) from by omega] at this
def Lv (b : Nat) : Nat := if Bt b then b else 1000 + b
structure Wu (P : Program) (rs : List ResultVar) (st : St) (lent : List (BH × BH)) (rv : List BH) (res : D) : Prop where
 r : ∃ xs, bB P st rs xs ∧ aM xs = res.ren Lv
 l : Q0 st.bx Lv 0 lent
 v : Tj st.bx Lv 0 rv
def Ib (n m : Nat) (l : List Nat) : Bool := l.all (I8 n m)
theorem Fi {f n : Nat} {fn : Func} {c : Code} {args : List D} {lent : List (BH × BH)} {rv : List BH} {res : D} {rs : List ResultVar} (hf : P.funcs[f]? = some fn) (hb : fn.body = some c) (hn : fn.ntmps = n) (hrs : fn.results.toList = rs) (hl : args.length ≤ n) (hn9 : n ≤ 90000)
  (hargs : (args.all fun d => Ib lent.length 0 d.names) = true) (hpre : (lent.all fun x => Ib lent.length 0 x.1.names && x.1.real && x.2.real) = true) (hll : lent.length ≤ 900) (hrl : (rv.all fun x => x.real) = true) (hrn : rv.length ≤ 1000)
  (h : ∀ (w0 : World) (S0 : Nat → Prop) (GL : Gh), W P ⟨w0, S0, n, GL⟩ c (fun e st => match e with | .normal | .ret => Wu P rs st lent rv res | _ => False) (QB args lent)) : Dy P f args lent rv res := by
 subst hn; subst hrs
 intro w G vs hS hgk hlb hla hli hlen hrd
 refine calls_of_wp hf hb ?_
 have hcell : ∀ j, j < args.length → Aw (vs ++ zI9 (fn.ntmps - vs.size) undef) j = Aw vs j := fun j hj => CA (by omega)
 -- the ghost that knows of what is lent alone
 let dom : Nat → Prop := fun b => Bt b = true ∧ b - 90000 < lent.length
 have hdec : ∀ b, Decidable (dom b) := fun b => inferInstanceAs (Decidable (_ ∧ _))
 let GL : Gh := { S := G.S, loc := fun b => if dom b then G.loc b else none, hd := fun b => if dom b then G.hd b else undef, more := fun b => if dom b then G.more b else fun _ => False }
 have hext : G.ext GL dom := ⟨fun _ h => h, fun b hb => if_pos hb, fun b hb => if_pos hb, fun b hb => if_pos hb⟩
 have hdomk : ∀ k, k < lent.length → dom (90000 + k) := fun k hk => ⟨I6 (by omega), by omega⟩
 have hin : ∀ b, I8 lent.length 0 b = true → dom b := by
  intro b hb
  unfold I8 at hb
  split at hb
  ·rename_i hl; exact ⟨hl, by rwa [zH2] at hb⟩
  ·simp [Nat.blt] at hb
 have hhas : ∀ b β, GL.has b β → dom b ∧ G.has b β := by
  intro b β hb
  by_cases hd : dom b
  ·exact ⟨hd, (hext.has hd).1 hb⟩
  ·exfalso
   unfold Gh.has at hb
   simp only [GL] at hb
   rw [if_neg hd, if_neg hd] at hb
   rcases hb with h | h
   ·cases h
   ·exact h
 have hlent : ∀ β, GL.lent β ↔ Uw G lent.length β := by
  intro β
  constructor
  ·rintro ⟨b, hb, hb2⟩
   obtain ⟨hd, hg⟩ := hhas b β hb2
   obtain ⟨k, _, rfl⟩ := Ka hb
   exact ⟨k, by have := hd.2; omega, hg⟩
  ·rintro ⟨k, hk, hg⟩
   exact ⟨90000 + k, I6 (by omega), (hext.has (hdomk k hk)).2 hg⟩
 have hbx : ∀ b k, (QB args lent).bx b = some k → dom b ∧ ∃ x, lent[b - 90000]? = some x ∧ x.1 = k := by
  intro b k hk
  simp only [QB] at hk
  split at hk
  ·rename_i hb
   cases hx : lent[b - 90000]? with
   | none => rw [hx] at hk; cases hk
   | some x => rw [hx] at hk; cases hk; exact ⟨⟨hb, AC hx⟩, x, rfl, rfl⟩
  ·cases hk
 have hdn : ∀ b, dom b → ((QB args lent).bx b).isSome = true := by
  intro b hb
  simp only [QB]
  rw [if_pos hb.1]
  simp [hb.2]
 have hpre' : ∀ x, x ∈ lent → Ib lent.length 0 x.1.names = true ∧ x.1.real = true ∧ x.2.real = true := fun x hx => by
  have := zA5.1 hpre x hx
  rw [zA4, zA4] at this
  exact ⟨this.1.1, this.1.2, this.2⟩
 have hbk : ∀ b, dom b → b = 90000 + (b - 90000) := fun b hb => by obtain ⟨k, _, e⟩ := Ka hb.1; omega
 have hinit : C5 P ⟨w, G.S, fn.ntmps, GL⟩ GL (QB args lent) { tmps := vs ++ zI9 (fn.ntmps - vs.size) undef, defers := [] } w := by
  refine { S_lt := hS, S_src := fun β h => .inl h, S_0 := fun β h => h, S0_lt := hS, tsz := by simp; omega, defers := rfl, below := DB.refl _ _ _, gok := hgk, nlt := hn9, lent := fun _ _ => ⟨rfl, rfl, rfl⟩, blk := ?_, at_ok := ?_, at_inj := ?_, env := ?_, live := ?_, liveB := ?_ }
  ·intro b k hk
   obtain ⟨hd, x, hx, rfl⟩ := hbx b k hk
   have h1 := hlb _ x hx
   rw [← hbk b hd] at h1
   exact h1.mono hext hd (fun _ _ => rfl) (fun _ _ _ => rfl) fun c hc => hin c (zA5.1 (hpre' x (lM hx)).1 c hc)
  ·intro b k β hk hr hβ
   obtain ⟨hd, hg⟩ := hhas b β hβ
   rw [hbk b hd] at hg
   have := hla _ β hd.2 hg
   exact ⟨⟨fun h3 => (by rw [hd.1] at h3; cases h3), .inr ⟨b, hd.1, hβ⟩⟩, this.1, this.2⟩
  ·intro b c k l β hk hl hr hr' hβ hβ'
   obtain ⟨hd, hg⟩ := hhas b β hβ
   obtain ⟨hd', hg'⟩ := hhas c β hβ'
   rw [hbk b hd] at hg
   rw [hbk c hd'] at hg'
   have := hli _ _ β hd.2 hd'.2 hg hg'
   rw [hbk b hd, hbk c hd', this]
  ·intro s d hs
   have hs' : args[s]? = some d := hs
   rw [hcell s (AC hs')]
   exact (hrd s d hs').mono hext (fun _ _ => rfl) fun b hb => hin b (zA5.1 (zA5.1 hargs d (lM hs')) b hb)
  ·intro s d hs b hb
   have hs' : args[s]? = some d := hs
   exact hdn b (hin b (zA5.1 (zA5.1 hargs d (lM hs')) b hb))
  ·intro b k hk c hc
   obtain ⟨hd, x, hx, rfl⟩ := hbx b k hk
   exact hdn c (hin c (zA5.1 (hpre' x (lM hx)).1 c hc))
 refine wp_mono (h w G.S GL _ w ⟨_, hinit⟩) ?_
 rintro e a' w' ⟨st', hq, G2, hs⟩
 have key : Wu P fn.results.toList st' lent rv res → a'.defers = [] ∧ ∃ v, (results fn a'.tmps).run P w' = .ok v w' ∧ ∃ v' G', Ending.returned v = .returned v' ∧ DB (Uw G lent.length) w.heap.size w w' ∧ (∀ β, G.S β → G'.S β) ∧ (∀ β, G'.S β → G.S β ∨ (w.heap.size ≤ β ∧ β < w'.heap.size)) ∧ Hj P w' G' v' res ∧
   (∀ (k : Nat) (x : BH × BH), lent[k]? = some x → Eu P w' G' (90000 + k) x.2) ∧
   (∀ (k : Nat) (x : BH), rv[k]? = some x → Eu P w' G' k x) ∧
   (∀ k, k < lent.length → G'.loc (90000 + k) = G.loc (90000 + k) ∧ G'.hd (90000 + k) = G.hd (90000 + k) ∧ G'.more (90000 + k) = G.more (90000 + k)) ∧
   (∀ k β, k < lent.length → G'.has (90000 + k) β → ¬ G'.S β) ∧
   (∀ k β, k < rv.length → G'.has k β → w.heap.size ≤ β ∧ β < w'.heap.size ∧ ¬ G'.S β) ∧
   (∀ k l β, k < rv.length → l < rv.length → G'.has k β → G'.has l β → k = l) := by
  rintro ⟨⟨xs, hr1, hr2⟩, hlp, hv⟩
  obtain ⟨us, h1, h2, h3⟩ := hs.rrs hr1
  have hoL : ∀ k, k < lent.length → Lv (90000 + k) = 90000 + k := fun k hk => by unfold Lv; rw [I6 (by omega)]; rfl
  have hoN : ∀ k, k < rv.length → Lv k = 1000 + k := fun k hk => by unfold Lv; rw [JX (show k < 1000 by omega) (by omega)]; rfl
  have hbl : ∀ (k : Nat) (x : BH × BH), lent[k]? = some x → st'.bx (90000 + k) = some (x.2.ren Lv) := fun k x hk => by
   have := NK hlp k x hk
   rwa [zA1] at this
  have hbv : ∀ (k : Nat) (x : BH), rv[k]? = some x → st'.bx (1000 + k) = some (x.ren Lv) := fun k x hk => by
   have := Pi hv k x hk
   rwa [zA1] at this
  have hreal : ∀ (k : Nat) (x : BH), rv[k]? = some x → (x.ren Lv).real = true := fun k x hk => by
   rw [JO]; exact zA5.1 hrl x (lM hk)
  have hgl : ∀ k, k < lent.length → G2.loc (90000 + k) = G.loc (90000 + k) ∧ G2.hd (90000 + k) = G.hd (90000 + k) ∧ G2.more (90000 + k) = G.more (90000 + k) := fun k hk => by
   obtain ⟨e1, e2, e3⟩ := hs.lent (90000 + k) (U6 (by omega))
   exact ⟨e1.trans (hext.loc _ (hdomk k hk)), e2.trans (hext.hd _ (hdomk k hk)), e3.trans (hext.more _ (hdomk k hk))⟩
  refine ⟨hs.defers, (if h : us.toArray.size = 1 then us.toArray[0] else .tuple us.toArray), ?_, _, { S := G2.S, loc := fun b => G2.loc (Lv b), hd := fun b => G2.hd (Lv b), more := fun b => G2.more (Lv b) }, rfl, ?_, hs.S_0, ?_, ?_, ?_, ?_, ?_, ?_, ?_, ?_⟩
  ·unfold results
   refine Aj (a := us.toArray) (w1 := w') ?_ rfl
   rw [Array.mapM_eq_mapM_toList]
   simp only [Sem.run_map]
   exact congrArg (fun r => Result.andThen r fun a w' => Result.ok a.toArray w') h1
  ·have hb := hs.below
   exact ⟨hb.os, hb.tape, hb.output, hb.size, hb.drawn, fun k hk hl => hb.block k hk fun h => hl ((hlent k).1 h)⟩
  ·intro β hβ
   rcases hs.S_src β hβ with h | h
   ·exact .inl h
   ·exact .inr ⟨h, hs.S_lt β hβ⟩
  ·refine Kd (f := Lv) ?_
   rw [← hr2]
   match xs, us, h2 with
   | [], [], _ => exact ⟨#[], rfl, rfl, fun j x h => by simp at h⟩
   | [x], [u], _ => exact h3 0 u x rfl rfl
   | x :: y :: xs, u :: u' :: us, hl2 =>
    refine ⟨(u :: u' :: us).toArray, by simp, by simpa using hl2, fun j z hj => ?_⟩
    have hlt := AC hj
    have hu : (u :: u' :: us)[j]? = some ((u :: u' :: us)[j]'(by rw [hl2]; exact hlt)) := by rw [zB6]
    have := h3 j _ z hu hj
    have hc : Aw (u :: u' :: us).toArray j = (u :: u' :: us)[j]'(by rw [hl2]; exact hlt) := by
     unfold Aw
     rw [List.getElem?_toArray, hu]; rfl
    rw [hc]; exact this
  ·intro k x hk
   refine Kg (f := Lv) ?_
   rw [hoL k (AC hk)]
   exact hs.blk _ _ (hbl k x hk)
  ·intro k x hk
   refine Kg (f := Lv) ?_
   rw [hoN k (AC hk)]
   exact hs.blk _ _ (hbv k x hk)
  ·intro k hk
   simp only [hoL k hk]
   exact hgl k hk
  ·intro k β hk hβ
   have hx : lent[k]? = some lent[k] := by simp [hk]
   have hβ : G2.has (90000 + k) β := by
    unfold Gh.has at hβ ⊢
    simp only [hoL k hk] at hβ
    exact hβ
   exact (hs.at_ok _ _ β (hbl k _ hx) (by rw [JO]; exact (hpre' _ (lM hx)).2.2) hβ).2.2
  ·intro k β hk hβ
   have hx : rv[k]? = some rv[k] := by simp [hk]
   have hβ : G2.has (1000 + k) β := by
    unfold Gh.has at hβ ⊢
    simp only [hoN k hk] at hβ
    exact hβ
   have := hs.at_ok _ _ β (hbv k _ hx) (hreal k _ hx) hβ
   exact ⟨this.1.1 (JX (show 1000 + k < 3000 by omega) (by omega)), this.2⟩
  ·intro k l β hk hl hβ hβ'
   have hx : rv[k]? = some rv[k] := by simp [hk]
   have hx' : rv[l]? = some rv[l] := by simp [hl]
   have hβ : G2.has (1000 + k) β := by
    unfold Gh.has at hβ ⊢
    simp only [hoN k hk] at hβ
    exact hβ
   have hβ' : G2.has (1000 + l) β := by
    unfold Gh.has at hβ' ⊢
    simp only [hoN l hl] at hβ'
    exact hβ'
   have := hs.at_inj _ _ _ _ β (hbv k _ hx) (hbv l _ hx') (hreal k _ hx) (hreal l _ hx') hβ hβ'
   omega
 cases e with
 | normal => exact key hq
 | ret => exact key hq
 | _ => exact hq.elim
def nu (ls ns : List Nat) (b : Nat) : Nat := if Bt b then ls.getD (b - 90000) 0 else ns.getD b 0
def OL (f : Nat → Nat) : List Nat → List (BH × BH) → List (Nat × BH)
 | l :: ls, x :: xs => (l, x.1.ren f) :: OL f ls xs
 | _, _ => []
def Ji (f : Nat → Nat) : List Nat → List (BH × BH) → List Bool → List (Nat × BH) → List (Nat × BH)
 | l :: ls, x :: xs, c :: cs, r => if c then (l, x.2.ren f) :: Ji f ls xs cs r else Ji f ls xs cs r
 | _, _, _, r => r
def newB (f : Nat → Nat) : List Nat → List BH → List (Nat × BH)
 | n :: ns, x :: xs => (n, x.ren f) :: newB f ns xs
 | _, _ => []
def Ux : List (BH × BH) → List Bool → Prop
 | x :: xs, c :: cs => (c = false → x.1 = x.2) ∧ Ux xs cs
 | [], [] => True
 | _, _ => False
theorem QA {f : Nat → Nat} {bx : Nat → Option BH} : ∀ {ls : List Nat} {lent : List (BH × BH)}, ls.length = lent.length → Hz bx (OL f ls lent) → ∀ (k : Nat) (x : BH × BH), lent[k]? = some x → bx (nm ls k) = some (x.1.ren f)
 | [], [], _, _, k, y, hk => by simp at hk
 | l :: ls, x :: xs, hl, h, 0, y, hk => by simp at hk; subst hk; exact h.1
 | l :: ls, x :: xs, hl, h, k + 1, y, hk => by
  have := QA (ls := ls) (lent := xs) (by simpa using hl) h.2 k y (by simpa using hk)
  simpa [nm] using this
theorem P6 {f : Nat → Nat} {bx : Nat → Option BH} {r : List (Nat × BH)} : ∀ {ls : List Nat} {lent : List (BH × BH)} {ch : List Bool}, ls.length = lent.length → ls.Nodup → Ux lent ch → (∀ c, c ∈ ls → Bj bx r c = bx c) → Hz bx (OL f ls lent) →
  (∀ c, c ∉ ls → Bj bx (Ji f ls lent ch r) c = Bj bx r c) ∧ ∀ (k : Nat) (x : BH × BH), lent[k]? = some x → Bj bx (Ji f ls lent ch r) (nm ls k) = some (x.2.ren f)
 | [], [], [], _, _, _, _, _ => ⟨fun _ _ => rfl, fun k x h => by simp at h⟩
 | [], [], _ :: _, _, _, h, _, _ => h.elim
 | l :: ls, x :: xs, [], hl, hnd, hc, hr, hp => by cases hc
 | l :: ls, x :: xs, c :: cs, hl, hnd, hc, hr, hp => by
  have ih := P6 (f := f) (bx := bx) (r := r) (ls := ls) (lent := xs) (ch := cs) (by simpa using hl) (zE7.1 hnd).2 hc.2 (fun c hc => hr c (by simp [hc])) hp.2
  have hln : l ∉ ls := (zE7.1 hnd).1
  have hl0 : Bj bx (Ji f ls xs cs r) l = bx l := (ih.1 l hln).trans (hr l (by simp))
  refine ⟨fun d hd => ?_, fun k y hk => ?_⟩
  ·simp only [zB0, not_or] at hd
   simp only [Ji]
   split
   ·simp only [Bj]; rw [if_neg hd.1]; exact ih.1 d hd.2
   ·exact ih.1 d hd.2
  ·cases k with
   | zero =>
    simp at hk; subst hk
    simp only [Ji, nm, zK2]
    split
    ·simp [Bj]
    ·rename_i hcc
     have hcf : c = false := by simpa using hcc
     rw [hl0, hp.1, hc.1 hcf]
   | succ k =>
    have hk' : xs[k]? = some y := by simpa using hk
    have hlt := AC hk'
    have hlt2 : k < ls.length := by simp at hl; omega
    have e : nm (l :: ls) (k + 1) = nm ls k := by simp [nm]
    rw [e]
    have hne : nm ls k ≠ l := fun h => hln (h ▸ Ga hlt2)
    simp only [Ji]
    split
    ·simp only [Bj]; rw [if_neg hne]; exact ih.2 k y hk'
    ·exact ih.2 k y hk'
theorem Po {f : Nat → Nat} {bx : Nat → Option BH} : ∀ {ns : List Nat} {rv : List BH} {c : Nat}, ns.length = rv.length → ns.Nodup →
  (c ∉ ns → Bj bx (newB f ns rv) c = bx c) ∧ ∀ (k : Nat) (x : BH), rv[k]? = some x → Bj bx (newB f ns rv) (nm ns k) = some (x.ren f)
 | [], [], c, _, _ => ⟨fun _ => rfl, fun k x h => by simp at h⟩
 | n :: ns, x :: xs, c, hl, hnd => by
  have ih := Po (f := f) (bx := bx) (ns := ns) (rv := xs) (c := c) (by simpa using hl) (zE7.1 hnd).2
  refine ⟨fun hc => ?_, fun k y hk => ?_⟩
  ·simp only [zB0, not_or] at hc
   simp only [newB, Bj]
   rw [if_neg hc.1]; exact ih.1 hc.2
  ·cases k with
   | zero => simp at hk; subst hk; simp [newB, Bj, nm]
   | succ k =>
    have hk' : xs[k]? = some y := by simpa using hk
    have hlt := AC hk'
    have hlt2 : k < ns.length := by simp at hl; omega
    have : nm (n :: ns) (k + 1) = nm ns k := by simp [nm]
    rw [this]
    have hne : nm ns k ≠ n := fun e => (zE7.1 hnd).1 (e ▸ Ga hlt2)
    simp only [newB, Bj]
    rw [if_neg hne]
    exact (Po (f := f) (bx := bx) (ns := ns) (rv := xs) (c := c) (by simpa using hl) (zE7.1 hnd).2).2 k y hk'
theorem HN {ls ns : List Nat} {k : Nat} (h : k < 1000) : nu ls ns (90000 + k) = nm ls k := by
 unfold nu nm; rw [I6 h, if_pos rfl, show 90000 + k - 90000 = k from by omega]
theorem Nk {ls ns : List Nat} {k : Nat} (h : k < 90000) : nu ls ns k = nm ns k := by
 unfold nu nm; rw [JX h (zB4 _), if_neg (by simp)]
theorem OT {bx : Nat → Option BH} {c : Nat} : ∀ {wb : List (Nat × BH)}, (bx c).isSome = true → (Bj bx wb c).isSome = true
 | [], h => h
 | p :: ps, h => by
  simp only [Bj]; split
  ·rfl
  ·exact OT h
section run
variable {dr : Bool} {Q : St → Prop} {r i : Nat} {st : St} {log : List (Nat × CM)} {o : Oper} {gs : List (Operand × D)}
theorem Wt {f s : Nat} {xs : List Operand} {ds0 ds : List D} {lent : List (BH × BH)} {rv : List BH} {res : D} {ts : Array TypeId} (ls ns : List Nat) (ch : List Bool) (hc : Dy P f ds lent rv res) (hat : At st.env ops i X.n (.call ⟨.value (.func f), xs.toArray, ts⟩) s gs)
  (hf : AG P f = true) (hl : xs.length = ds0.length) (hds : ds0.map D.nrm = ds.map (D.ren (nu ls ns)))
  (hll : ls.length = lent.length) (hln : ls.Nodup) (hns : ns.length = rv.length) (hndl : K3 ns) (hch : Ux lent ch)
  (hlim : (zG8 lent.length 1000 && zG8 rv.length 1000) = true) (hre : (lent.all fun x => x.1.real && x.2.real) = true)
  (hnm : (Ib lent.length rv.length res.names && (lent.all fun x => Ib lent.length rv.length x.2.names) && rv.all fun x => Ib lent.length rv.length x.names) = true) : LR P X ops i ⟨gs ++ H4 xs ds0, OL (nu ls ns) ls lent, some s, some (res.ren (nu ls ns)), Ji (nu ls ns) ls lent ch (newB (nu ls ns) ns rv), ns⟩ := by
 obtain ⟨o, ho, hop, hd, hn, hg, hgp⟩ := hat.out
 have hnd := hndl.1
 rw [zA4] at hlim
 have hlim1 := zC8 hlim.1
 have hlim2 := zC8 hlim.2
 rw [zA4, zA4] at hnm
 obtain ⟨⟨hnmR, hnmL⟩, hnmV⟩ := hnm
 have hre' : ∀ x, x ∈ lent → x.1.real = true ∧ x.2.real = true := fun x hx => by
  have := zA5.1 hre x hx
  rw [zA4] at this
  exact this
 intro st a w K Q' hs hpre hK
 obtain ⟨G, hs⟩ := hs
 have hx := (Ak.1 hpre.r).2
 have hw := hs.wanted hg (Ak.1 hpre.r).1
 have hnew := hpre.n
 have hlb := hpre.b
 have hnew' : ∀ c, c ∈ ns → st.bx c = none := by
  have : ∀ {l : List Nat}, M6 st.bx l → ∀ c, c ∈ l → st.bx c = none := by
   intro l
   induction l with
   | nil => intro _ c hc; cases hc
   | cons b l ih =>
    intro h c hc
    rcases zB0.1 hc with e | e
    ·subst e; exact h.1
    ·exact ih h.2 c e
  exact this hnew
 have hget := fun k x hk => QA (f := nu ls ns) hll hlb k x hk
 have hlk : ∀ k, k < lent.length → st.bx (nm ls k) = some (lent[k]!.1.ren (nu ls ns)) ∧ (lent[k]!.1.ren (nu ls ns)).real = true := fun k hk => by
  have hx0 : lent[k]? = some lent[k]! := by simp [hk]
  exact ⟨hget k _ hx0, by rw [JO]; exact (hre' _ (lM hx0)).1⟩
 have hlsns : ∀ c, c ∈ ls → c ∉ ns := fun c hc hm => by
  obtain ⟨k, hk, e⟩ := Pm hc
  have := (hlk k (by omega)).1
  rw [e, hnew' c hm] at this; cases this
 unfold wpOp
 rw [ho]
 simp only [hw, if_true]
 refine .inl ?_
 unfold Oper.wp
 have hrun : (execOp a.eval o).run P w = .ok (.enter f (xs.toArray.map a.eval)) w := by
  simp only [execOp, hop]
  exact Lc hf rfl
 rw [hrun]
 show Calls P f (xs.toArray.map a.eval) w _
 let Gc : Gh := { S := G.S, loc := fun b => G.loc (nu ls ns b), hd := fun b => G.hd (nu ls ns b), more := fun b => G.more (nu ls ns b) }
 have hGc : ∀ k β, k < lent.length → (Gc.has (90000 + k) β ↔ G.has (nm ls k) β) := fun k β hk => by
  unfold Gh.has; simp only [Gc]; rw [HN (by omega)]
 refine (hc w Gc (xs.toArray.map a.eval) hs.S_lt hs.gok ?_ ?_ ?_ ?_ ?_).mono ?_
 ·intro k x hk
  refine Kg (f := nu ls ns) ?_
  rw [HN (by have := AC hk; omega)]
  exact hs.blk _ _ (hget k x hk)
 ·intro k β hk hβ
  have h1 := hlk k hk
  exact (hs.at_ok _ _ β h1.1 h1.2 ((hGc k β hk).1 hβ)).2
 ·intro k l β hk hl' hβ hβ'
  have h1 := hlk k hk
  have h2 := hlk l hl'
  have := hs.at_inj _ _ _ _ β h1.1 h2.1 h1.2 h2.2 ((hGc k β hk).1 hβ) ((hGc l β hl').1 hβ')
  exact QY hln (by omega) (by omega) this
 ·have h1 := congrArg zH1 hds
  simp at h1
  simp; omega
 ·intro j d hj
  have hj2 : (ds.map (D.ren (nu ls ns)))[j]? = some (d.ren (nu ls ns)) := by rw [zA6, hj]; rfl
  rw [← hds, zA6] at hj2
  obtain ⟨d0, hj0, hd0⟩ : ∃ d0, ds0[j]? = some d0 ∧ d0.nrm = d.ren (nu ls ns) := by
   cases hx0 : ds0[j]? with
   | none => rw [hx0] at hj2; cases hj2
   | some d0 => rw [hx0] at hj2; exact ⟨d0, rfl, by simpa using hj2⟩
  have hlt := AC hj0
  have hxj : xs[j]? = some (xs[j]'(by omega)) := by simp [show j < xs.length from by omega]
  have hop' := JU hl hx j _ d0 hxj hj0
  have hcell : Aw (xs.toArray.map a.eval) j = a.eval (xs[j]'(by omega)) := by simp [Aw, show j < xs.length from by omega]
  rw [hcell]
  refine Kd (f := nu ls ns) ?_
  rw [← hd0]
  exact (hs.opd hop').nrm
 ·rintro e w' ⟨v, G', rfl, hbel, hS1, hS2, hres', hpost, hvec, hsame, hlS, hvat, hvinj⟩
  show K (a.put o.dst v) w'
  rw [hd]
  let G2 : Gh := { S := G'.S, loc := fun c => if c ∈ ns then G'.loc (ns.idxOf c) else G.loc c, hd := fun c => if c ∈ ns then G'.hd (ns.idxOf c) else G.hd c, more := fun c => if c ∈ ns then G'.more (ns.idxOf c) else G.more c }
  have hidx : ∀ k, k < ns.length → ns.idxOf (nm ns k) = k := by
   intro k hk
   have hm := Ga hk
   have h1 : ns.idxOf (nm ns k) < ns.length := List.idxOf_lt_length_of_mem hm
   refine QY hnd h1 hk ?_
   have h2 := List.getElem_idxOf h1
   show ns.getD (ns.idxOf (nm ns k)) 0 = nm ns k
   rw [lD, zB6 h1, zC9, h2]
  have hvia : G'.via G2 (nu ls ns) (fun b => I8 lent.length rv.length b = true) := by
   have key : ∀ b, I8 lent.length rv.length b = true → (∃ k, k < lent.length ∧ b = 90000 + k) ∨ (b < rv.length ∧ Bt b = false) := by
    intro b hb
    unfold I8 at hb
    split at hb
    ·rename_i h
     obtain ⟨k, _, rfl⟩ := Ka h
     rw [zH2] at hb
     exact .inl ⟨k, by omega, rfl⟩
    ·rename_i h
     rw [zH2] at hb
     exact .inr ⟨hb, by simpa using h⟩
   refine ⟨fun β h => h, fun b hb => ?_, fun b hb => ?_, fun b hb => ?_⟩
   ·rcases key b hb with ⟨k, hk, rfl⟩ | ⟨hb1, hb2⟩
    ·rw [HN (by omega)]
     have hni : nm ls k ∉ ns := hlsns _ (Ga (by omega))
     simp only [G2]; rw [if_neg hni, (hsame k hk).1]; simp only [Gc]; rw [HN (by omega)]
    ·rw [Nk (by omega)]
     simp only [G2]; rw [if_pos (Ga (by omega)), hidx b (by omega)]
   ·rcases key b hb with ⟨k, hk, rfl⟩ | ⟨hb1, hb2⟩
    ·rw [HN (by omega)]
     have hni : nm ls k ∉ ns := hlsns _ (Ga (by omega))
     simp only [G2]; rw [if_neg hni, (hsame k hk).2.1]; simp only [Gc]; rw [HN (by omega)]
    ·rw [Nk (by omega)]
     simp only [G2]; rw [if_pos (Ga (by omega)), hidx b (by omega)]
   ·rcases key b hb with ⟨k, hk, rfl⟩ | ⟨hb1, hb2⟩
    ·rw [HN (by omega)]
     have hni : nm ls k ∉ ns := hlsns _ (Ga (by omega))
     simp only [G2]; rw [if_neg hni, (hsame k hk).2.2]; simp only [Gc]; rw [HN (by omega)]
    ·rw [Nk (by omega)]
     simp only [G2]; rw [if_pos (Ga (by omega)), hidx b (by omega)]
  have hext : G.ext G2 (fun b => (st.bx b).isSome = true) := by
   have : ∀ b, (st.bx b).isSome = true → b ∉ ns := fun b hb hm => by rw [hnew' b hm] at hb; cases hb
   exact ⟨fun β h => hS1 β h, fun b hb => by simp only [G2]; rw [if_neg (this b hb)], fun b hb => by simp only [G2]; rw [if_neg (this b hb)], fun b hb => by simp only [G2]; rw [if_neg (this b hb)]⟩
  have hnotL : ∀ β, Uw Gc lent.length β → ∃ k, k < lent.length ∧ G.has (nm ls k) β := fun β ⟨k, hk, hb⟩ => ⟨k, hk, (hGc k β hk).1 hb⟩
  have hwS : ∀ β, G.S β → w'.heap[β]? = w.heap[β]? := fun β hβ => hbel.block β (hs.S_lt β hβ) fun h => by
   obtain ⟨k, hk, hg⟩ := hnotL β h
   exact (hs.at_ok _ _ β (hlk k hk).1 (hlk k hk).2 hg).2.2 hβ
  have hsz := hbel.size
  have hle := hs.below.size
  have hng := fun c => Po (f := nu ls ns) (bx := st.bx) (ns := ns) (rv := rv) (c := c) hns hnd
  have hbg := P6 (f := nu ls ns) (bx := st.bx) (r := newB (nu ls ns) ns rv) (ls := ls) (lent := lent) (ch := ch) hll hln hch (fun c hc => (hng c).1 (hlsns c hc)) hlb
  have hblk : ∀ c k, Bj st.bx (Ji (nu ls ns) ls lent ch (newB (nu ls ns) ns rv)) c = some k →
    (c ∉ ns ∧ c ∉ ls ∧ st.bx c = some k) ∨ (∃ m x, m < ns.length ∧ nm ns m = c ∧ rv[m]? = some x ∧ k = x.ren (nu ls ns)) ∨ (∃ m x, m < ls.length ∧ nm ls m = c ∧ lent[m]? = some x ∧ k = x.2.ren (nu ls ns)) := by
   intro c k hc
   by_cases hm : c ∈ ls
   ·obtain ⟨m, hm1, hm2⟩ := Pm hm
    have hlx : lent[m]? = some (lent[m]'(by omega)) := by simp [show m < lent.length from by omega]
    have := hbg.2 m _ hlx
    rw [hm2, hc] at this
    exact .inr (.inr ⟨m, _, hm1, hm2, hlx, by simpa using this⟩)
   ·rw [hbg.1 c hm] at hc
    by_cases hm2 : c ∈ ns
    ·obtain ⟨m, hm1, hm3⟩ := Pm hm2
     have hrx : rv[m]? = some (rv[m]'(by omega)) := by simp [show m < rv.length from by omega]
     have := (hng c).2 m _ hrx
     rw [hm3, hc] at this
     exact .inr (.inl ⟨m, _, hm1, hm3, hrx, by simpa using this⟩)
    ·rw [(hng c).1 hm2] at hc; exact .inl ⟨hm2, hm, hc⟩
  have hdom : ∀ b, I8 lent.length rv.length b = true → (Bj st.bx (Ji (nu ls ns) ls lent ch (newB (nu ls ns) ns rv)) (nu ls ns b)).isSome = true := by
   intro b hb
   unfold I8 at hb
   split at hb
   ·rename_i h
    obtain ⟨k, _, rfl⟩ := Ka h
    rw [zH2] at hb
    have hk : k < lent.length := by omega
    rw [HN (by omega), hbg.2 k _ (show lent[k]? = some lent[k] by simp [hk])]; rfl
   ·rename_i h
    rw [zH2] at hb
    have hni : nm ns b ∉ ls := fun hm => hlsns _ hm (Ga (by omega))
    rw [Nk (by omega), hbg.1 _ hni, (hng (nm ns b)).2 b _ (show rv[b]? = some rv[b] by simp [hb])]; rfl
  have hren : ∀ l : List Nat, Ib lent.length rv.length l = true → ∀ b, b ∈ l → I8 lent.length rv.length b = true := fun l h b hb => zA5.1 h b hb
  have hrenB : ∀ (k : BH) b, b ∈ (k.ren (nu ls ns)).names → ∃ b0, b0 ∈ k.names ∧ b = nu ls ns b0 := by
   intro k b hb
   cases k with
   | box cs =>
    obtain ⟨c, hc, hb⟩ := BL.1 hb
    obtain ⟨c0, h0, rfl⟩ := zB8.1 hc
    obtain ⟨b0, h1, h2⟩ := K9 hb
    exact ⟨b0, BL.2 ⟨c0, h0, h1⟩, h2⟩
   | vec e rows => cases hb
   | mp es => cases hb
   | dvec e cols rs => cases hb
   | pvec n e cols rs => cases hb
   | hol e cols i0 k0 c rs => exact ⟨c, by simp [BH.names], by simpa [BH.ren, BH.names] using hb⟩
   | gone => cases hb
  have hhasN : ∀ m β, m < ns.length → (G2.has (nm ns m) β ↔ G'.has m β) := fun m β hm => by
   have hmd : I8 lent.length rv.length m = true := by
    unfold I8; rw [JX (show m < 90000 by omega) (zB4 _), if_neg (by simp), zH2]; omega
   have := hvia.has (β := β) hmd
   rwa [Nk (by omega)] at this
  have key : C5 P X G2 ⟨st.env, Bj st.bx (Ji (nu ls ns) ls lent ch (newB (nu ls ns) ns rv))⟩ a w' := by
   refine hs.frame (fun c hc => OT hc) hext hwS ?_ ?_ ?_ ?_ ?_ ?_ (fun b hb => by
    have : b ∉ ns := fun hm => by rw [hndl.2 b hm] at hb; cases hb
    simp only [G2]; rw [if_neg this, if_neg this, if_neg this]; exact ⟨rfl, rfl, rfl⟩)
   ·intro c k hc
    rcases hblk c k hc with ⟨_, h0, h1⟩ | ⟨m, x, h1, h2, h3, h4⟩ | ⟨m, x, h1, h2, h3, h4⟩
    ·refine .inl ⟨h1, fun β hr hβ => hbel.block β (hs.at_ok c k β h1 hr hβ).2.1 fun hL => ?_⟩
     obtain ⟨j, hj, hg⟩ := hnotL β hL
     exact h0 ((hs.at_inj _ _ _ _ β h1 (hlk j hj).1 hr (hlk j hj).2 hβ hg) ▸ Ga (by omega))
    ·subst h4
     have hmd : I8 lent.length rv.length m = true := by
      unfold I8; rw [JX (show m < 90000 by omega) (zB4 _), if_neg (by simp), zH2]; omega
     have hxn := hren _ (zA5.1 hnmV x (lM h3))
     refine .inr ⟨?_, fun c' hc' => ?_⟩
     ·have := (hvec m x h3).ren hvia hmd hxn
      rwa [Nk (by omega), h2] at this
     ·obtain ⟨b0, hb0, rfl⟩ := hrenB x c' hc'
      exact hdom b0 (hxn b0 hb0)
    ·subst h4
     have hmd : I8 lent.length rv.length (90000 + m) = true := by
      unfold I8; rw [I6 (by omega), if_pos rfl, zH2]; omega
     have hxn := hren _ (zA5.1 hnmL x (lM h3))
     refine .inr ⟨?_, fun c' hc' => ?_⟩
     ·have := (hpost m x h3).ren hvia hmd hxn
      rwa [HN (by omega), h2] at this
     ·obtain ⟨b0, hb0, rfl⟩ := hrenB x.2 c' hc'
      exact hdom b0 (hxn b0 hb0)
   ·intro c k β hc hr hβ
    rcases hblk c k hc with ⟨h0, _, h1⟩ | ⟨m, x, h1, h2, h3, h4⟩ | ⟨m, x, h1, h2, h3, h4⟩
    ·have hβ := (hext.has (by rw [h1]; rfl)).1 hβ
     have := hs.at_ok c k β h1 hr hβ
     refine ⟨this.1, by omega, fun h => ?_⟩
     rcases hS2 β h with h | h
     ·exact this.2.2 h
     ·omega
    ·rw [← h2, hhasN m β h1] at hβ
     have := hvat m β (by omega) hβ
     exact ⟨.new (by omega), this.2.1, this.2.2⟩
    ·subst h2
     have h5 := hlk m (by omega)
     have hβ := (hext.has (by rw [h5.1]; rfl)).1 hβ
     have := hs.at_ok _ _ β h5.1 h5.2 hβ
     refine ⟨this.1, by omega, hlS m β (by omega) ?_⟩
     have h6 := hsame m (by omega)
     unfold Gh.has at hβ ⊢
     rw [h6.1, h6.2.2]
     simp only [Gc]; rw [HN (by omega)]; exact hβ
   ·intro c c' k k' β hc hc' hr hr' hβ hβ'
    have old : ∀ c k, Bj st.bx (Ji (nu ls ns) ls lent ch (newB (nu ls ns) ns rv)) c = some k → k.real = true → G2.has c β → (∃ k0, st.bx c = some k0 ∧ k0.real = true ∧ G.has c β) ∨ ∃ m, m < ns.length ∧ nm ns m = c ∧ G'.has m β := by
     intro c k hc hr hβ
     rcases hblk c k hc with ⟨h0, _, h1⟩ | ⟨m, x, h1, h2, h3, h4⟩ | ⟨m, x, h1, h2, h3, h4⟩
     ·exact .inl ⟨k, h1, hr, (hext.has (by rw [h1]; rfl)).1 hβ⟩
     ·rw [← h2, hhasN m β h1] at hβ
      exact .inr ⟨m, h1, h2, hβ⟩
     ·subst h2
      have h5 := hlk m (by omega)
      exact .inl ⟨_, h5.1, h5.2, (hext.has (by rw [h5.1]; rfl)).1 hβ⟩
    rcases old c k hc hr hβ with ⟨k0, h1, h2, h3⟩ | ⟨m, h1, h2, h3⟩ <;> rcases old c' k' hc' hr' hβ' with ⟨k0', h1', h2', h3'⟩ | ⟨m', h1', h2', h3'⟩
    ·exact hs.at_inj c c' k0 k0' β h1 h1' h2 h2' h3 h3'
    ·have h5 := hvat m' β (by omega) h3'
     have h6 := (hs.at_ok c k0 β h1 h2 h3).2.1
     omega
    ·have h5 := hvat m β (by omega) h3
     have h6 := (hs.at_ok c' k0' β h1' h2' h3').2.1
     omega
    ·have := hvinj m m' β (by omega) (by omega) h3 h3'
     rw [← h2, ← h2', this]
   ·intro β h
    rcases hS2 β h with h | h
    ·have := hs.S_lt β h; omega
    ·exact h.2
   ·intro β h
    rcases hS2 β h with h | h
    ·exact hs.S_src β h
    ·exact .inr (by omega)
   ·refine hs.below.trans ⟨hbel.os, hbel.tape, hbel.output, hbel.size, hbel.drawn, fun k hk hnl => hbel.block k (by omega) fun hL => ?_⟩
    obtain ⟨j, hj, hg⟩ := hnotL k hL
    rcases (hs.at_ok _ _ k (hlk j hj).1 (hlk j hj).2 hg).1.2 with h | h
    ·omega
    ·exact hnl h
  refine hK _ _ ⟨G2, key.put (some s) (some (res.ren (nu ls ns))) v (by intro t e; cases e; exact hn) ?_⟩
  rintro d ⟨⟩
  refine ⟨hres'.ren hvia (hren _ hnmR), fun b hb => ?_⟩
  obtain ⟨b0, h1, h2⟩ := KR hb
  rw [h2]
  exact hdom b0 (hren _ hnmR b0 h1)
theorem H9 {f s : Nat} {xs : List Operand} {ds0 ds : List D} {lent : List (BH × BH)} {rv : List BH} {res : D} {ts : Array TypeId} (ls ns : List Nat) (ch : List Bool) (hc : Dy P f ds lent rv res) (hat : At st.env ops i X.n (.call ⟨.value (.func f), xs.toArray, ts⟩) s gs)
  (hf : AG P f = true) (hl : xs.length = ds0.length) (hx : F2 st.env (H4 xs ds0)) (hds : ds0.map D.nrm = ds.map (D.ren (nu ls ns)))
  (hll : ls.length = lent.length) (hln : ls.Nodup) (hlb : Hz st.bx (OL (nu ls ns) ls lent)) (hns : ns.length = rv.length) (hndl : K3 ns) (hnew : M6 st.bx ns) (hch : Ux lent ch)
  (hlim : (zG8 lent.length 1000 && zG8 rv.length 1000) = true) (hre : (lent.all fun x => x.1.real && x.2.real) = true)
  (hnm : (Ib lent.length rv.length res.names && (lent.all fun x => Ib lent.length rv.length x.2.names) && rv.all fun x => Ib lent.length rv.length x.names) = true)
  (next : A8 P X ops dr Q r (i + 1) (CM.upd ⟨gs ++ H4 xs ds0, OL (nu ls ns) ls lent, some s, some (res.ren (nu ls ns)), Ji (nu ls ns) ls lent ch (newB (nu ls ns) ns rv), ns⟩ st) ((i, ⟨gs ++ H4 xs ds0, OL (nu ls ns) ls lent, some s, some (res.ren (nu ls ns)), Ji (nu ls ns) ls lent ch (newB (nu ls ns) ns rv), ns⟩) :: log)) : A8 P X ops dr Q (r + 1) i st log := by
 obtain ⟨o, ho, hop, hd, hn, hg, hgp⟩ := hat.out
 exact A8.step next ⟨Ak.2 ⟨hgp, hx⟩, hlb, hnew⟩ (Wt ls ns ch hc hat hf hl hds hll hln hns hndl hch hlim hre hnm)
end run
end Go.Lift
namespace Go.Lift
open List renaming mem_of_getElem? → lM
open Go.RowKit
variable {P : Program} {X : Im} {ops : Array Oper}
def HY {α : Type} (xs : List α) (q : Nat) (ys : List α) : List α := xs.take q ++ ys ++ xs.drop (q + ys.length)
theorem Jc {α : Type} {xs ys : List α} {q : Nat} (h : q + ys.length ≤ xs.length) : (HY xs q ys).length = xs.length := by
 unfold HY; simp; omega
theorem Uc {α : Type} {xs ys : List α} {q : Nat} (h : q + ys.length ≤ xs.length) (i : Nat) : (HY xs q ys)[i]? = if q ≤ i ∧ i < q + ys.length then ys[i - q]? else xs[i]? := by
 unfold HY
 by_cases h1 : i < q
 ·rw [if_neg (by omega), zD2, zC4 (by simp; omega), zC1 h1]
 ·by_cases h2 : i < q + ys.length
  ·rw [if_pos (by omega), zC4 (by simp; omega), zD0 (by simp; omega)]
   congr 1; simp; omega
  ·rw [if_neg (by omega), zD0 (by simp; omega), zD5]
   congr 1; simp; omega
theorem Uv {α β : Type} (f : α → β) (xs ys : List α) (q : Nat) : HY (xs.map f) q (ys.map f) = (HY xs q ys).map f := by
 unfold HY; simp
inductive N5 : D → Nat → Nat → List (List T) → Nat → Nat → Prop where
 | own (b e : Nat) (rows : List (List T)) : N5 (.e (.one (.own b))) b e rows 0 rows.length
 | view (b e : Nat) (rows : List (List T)) (lo len : Nat) (h : lo + len ≤ rows.length) : N5 (.e (.one (.view b e lo len))) b e rows lo len
inductive PK : D → List (Nat × BH) → Nat → List (List T) → Prop where
 | of {d : D} {rb : List (Nat × BH)} {e : Nat} {rows : List (List T)} (h : Zz d rb e rows) : PK d rb e rows
 | view (b e : Nat) (rows : List (List T)) (lo len : Nat) (h : lo + len ≤ rows.length) : PK (.e (.one (.view b e lo len))) [(b, .vec e rows)] e ((rows.drop lo).take len)
theorem Qz (q : Addr) : q.add 0 = q := by unfold Addr.add; simp
theorem OH {G : Gh} {w : World} {b e : Nat} {rows : List (List T)} (h : Eu P w G b (.vec e rows)) : ∃ a cap, G.hd b = .slice a rows.length cap ∧ rows.length ≤ cap ∧
  (0 < cap → ∃ β arr el, a = some ⟨β, 0, none⟩ ∧ G.loc b = some β ∧ w.heap[β]? = some (.cells arr el (0, 0)) ∧ arr.size = cap * e ∧ ED w G.S arr e 0 rows) := by
 rcases h with ⟨a, h1, h2, _⟩ | ⟨β, cap, arr, el, h0, h1, h2, h3, h4, h5, h6⟩
 ·subst h2; exact ⟨a, 0, h1, zB4 _, fun h => by cases h⟩
 ·exact ⟨_, cap, h1, h3, fun _ => ⟨β, arr, el, rfl, h0, h2, h4, by rw [h4, zA1]; exact zA3 e h3, h5, fun i row j t hi hj => by rw [zA1]; exact h6 i row j t hi hj⟩⟩
section run
variable {dr : Bool} {Q : St → Prop} {r i : Nat} {st : St} {log : List (Nat × CM)} {o : Oper} {gs : List (Operand × D)}
theorem C5.dstV {G : Gh} {a : Act} {w : World} (hs : C5 P X G st a w) {x : Operand} {d : D} {b e lo len : Nat} {rows : List (List T)} (hx : Lift.opd st.env x = some d) (h : N5 d b e rows lo len) (hb : st.bx b = some (.vec e rows)) :
  ∃ p cap', a.eval x = .slice p len cap' ∧ rows.length - lo ≤ cap' ∧ lo + len ≤ rows.length ∧
   (lo < rows.length → ∃ β cap arr el, G.loc b = some β ∧ G.hd b = .slice (some ⟨β, 0, none⟩) rows.length cap ∧ rows.length ≤ cap ∧ p = some ⟨β, lo * e, none⟩ ∧ w.heap[β]? = some (.cells arr el (0, 0)) ∧ arr.size = cap * e ∧ ED w G.S arr e 0 rows) := by
 obtain ⟨a0, cap, h1, h2, h3⟩ := OH (hs.blk b _ hb)
 have hR := hs.opd hx
 cases h with
 | own =>
  obtain ⟨hR, _⟩ : Fg P w G (a.eval x) (.own b) := hR
  refine ⟨a0, cap, hR.trans h1, by omega, by omega, fun hlt => ?_⟩
  obtain ⟨β, arr, el, g1, g2, g3, g4, g5⟩ := h3 (by omega)
  subst g1
  exact ⟨β, cap, arr, el, g2, h1, h2, by simp, g3, g4, g5⟩
 | view _ _ _ _ _ h =>
  obtain ⟨a1, n1, cap1, p, k1, k2, k3, k4⟩ : Fg P w G (a.eval x) (.view b e lo len) := hR
  rw [h1] at k1
  cases k1
  refine ⟨p, cap - lo, k3, by omega, h, fun hlt => ?_⟩
  obtain ⟨β, arr, el, g1, g2, g3, g4, g5⟩ := h3 (by omega)
  subst g1
  refine ⟨β, cap, arr, el, g2, h1, h2, ?_, g3, g4, g5⟩
  rw [k4 (by omega)]
  simp [Addr.add_mk]
theorem C5.srcW {G : Gh} {a : Act} {w : World} (hs : C5 P X G st a w) {x : Operand} {d : D} {rb : List (Nat × BH)} {e : Nat} {rows : List (List T)} (hx : Lift.opd st.env x = some d) (h : PK d rb e rows) (hb : Hz st.bx rb) :
  ∃ p cap, a.eval x = .slice p rows.length cap ∧ (rows = [] ∨ ∃ β off arr el fz, p = some ⟨β, off, none⟩ ∧ w.heap[β]? = some (.cells arr el fz) ∧ ED w G.S arr e off rows) := by
 cases h with
 | of h =>
  have hR := hs.opd hx
  cases h with
  | own b e rows =>
   obtain ⟨hR, _⟩ : Fg P w G (a.eval x) (.own b) := hR
   obtain ⟨a0, cap, h1, h2, h3⟩ := OH (hs.blk b _ hb.1)
   refine ⟨a0, cap, hR.trans h1, ?_⟩
   cases rows with
   | nil => exact .inl rfl
   | cons y ys =>
    obtain ⟨β, arr, el, g1, g2, g3, g4, g5⟩ := h3 (by simp at h2; omega)
    exact .inr ⟨β, 0, arr, el, (0, 0), g1, g3, g5⟩
  | sl e rows hrow =>
   have hR : Ea w G.S (a.eval x) (.sl rows) := hR
   generalize a.eval x = v at hR
   cases hR with
   | nil a' cap => exact ⟨_, _, rfl, .inl rfl⟩
   | sl β off cap e' arr el' fz rows h1 h2 h3 h4 h5 h6 =>
    refine ⟨_, _, rfl, ?_⟩
    cases rows with
    | nil => exact .inl rfl
    | cons r0 rs =>
     have he : e' = e := by rw [← hrow 0 r0 rfl]; exact (h5 0 r0 rfl).symm
     subst he
     exact .inr ⟨β, off, arr, el', fz, rfl, h2, h4, h5, h6⟩
  | nil e =>
   have hR : Ea w G.S (a.eval x) .nil0 := hR
   generalize a.eval x = v at hR
   cases hR with
   | nil0 a' => exact ⟨_, _, rfl, .inl rfl⟩
 | view b _ rows lo len h =>
  obtain ⟨p, cap', h1, h2, h3, h4⟩ := hs.dstV hx (.view b e rows lo len h) hb.1
  have hlen : ((rows.drop lo).take len).length = len := by simp; omega
  refine ⟨p, cap', by rw [hlen]; exact h1, ?_⟩
  by_cases hz : len = 0
  ·exact .inl (by rw [hz, List.take_zero])
  ·obtain ⟨β, cap, arr, el, g1, g2, g3, g4, g5, g6, g7⟩ := h4 (by omega)
   refine .inr ⟨β, lo * e, arr, el, (0, 0), g4, g5, ?_, ?_, ?_⟩
   ·rw [hlen, g6, ← zD7]; exact zA3 e (by omega)
   ·intro i row hi
    have := AC hi
    rw [hlen] at this
    rw [zC1 this, zD5] at hi
    exact g7.2.1 _ row hi
   ·intro i row j t hi hj
    have := AC hi
    rw [hlen] at this
    rw [zC1 this, zD5] at hi
    have := g7.2.2 _ row j t hi hj
    rwa [zA1, zD7] at this
theorem ED.take {w : World} {S : Nat → Prop} {arr : Array Value} {e off n : Nat} {rows : List (List T)} (h : ED w S arr e off rows) : ED w S arr e off (rows.take n) := by
 refine ⟨?_, ?_, ?_⟩
 ·have := h.1
  have h2 : (rows.take n).length * e ≤ rows.length * e := zA3 e (by simp; omega)
  omega
 ·intro i row hi
  have := AC hi
  simp at this
  rw [zC1 (by omega)] at hi
  exact h.2.1 i row hi
 ·intro i row j t hi hj
  have := AC hi
  simp at this
  rw [zC1 (by omega)] at hi
  exact h.2.2 i row j t hi hj
theorem Q6 {w : World} {S : Nat → Prop} {p : Option Addr} {len cap e n : Nat} {rows : List (List T)} (hn : n ≤ rows.length) (h : rows = [] ∨ ∃ β off arr el fz, p = some ⟨β, off, none⟩ ∧ w.heap[β]? = some (.cells arr el fz) ∧ ED w S arr e off rows) :
  ∃ news, (Builtin.firstCells e n (.slice p len cap)).run P w = .ok news w ∧ ED w S news e 0 (rows.take n) ∧ news.size = n * e := by
 rcases h with h | ⟨β, off, arr, el, fz, h1, h2, h3⟩
 ·subst h
  have : n = 0 := by simpa using hn
  subst this
  obtain ⟨news, k1, k2, k3⟩ := EY (P := P) (w := w) (a := p) (len := len) (cap := cap) (e := e) (S := S)
  exact ⟨news, k1 w rfl, by simpa using k2, by simpa using k3⟩
 ·subst h1
  have hl : (rows.take n).length = n := by simp; omega
  obtain ⟨news, k1, k2, k3⟩ := HS (P := P) (len := len) (cap := cap) h2 (h3.take (n := n))
  rw [hl] at k1 k3
  exact ⟨news, k1 w rfl, k2, k3⟩
theorem RJ {G : Gh} {w : World} {b e β cap q : Nat} {rows rows2 : List (List T)} {arr news : Array Value} {el : TypeId} (hlt : β < w.heap.size) (hnS : ¬ G.S β) (h0 : G.loc b = some β) (h1 : G.hd b = .slice (some ⟨β, 0, none⟩) rows.length cap) (h3 : rows.length ≤ cap) (h4 : arr.size = cap * e) (h5 : ED w G.S arr e 0 rows)
  (hn : ED w G.S news e 0 rows2) (hns : news.size = rows2.length * e) (hq : q + rows2.length ≤ rows.length) :
  Eu P (GO w β (.cells (FR arr (q * e) news.toList) el (0, 0))) G b (.vec e (HY rows q rows2)) := by
 have hle : q * e + rows2.length * e ≤ cap * e := by rw [← zD7]; exact zA3 e (by omega)
 have hS : ∀ γ, G.S γ → (GO w β (.cells (FR arr (q * e) news.toList) el (0, 0))).heap[γ]? = w.heap[γ]? := fun γ hγ => by
  rw [EC, if_neg (fun (h : γ = β ∧ β < w.heap.size) => hnS (h.1 ▸ hγ))]
 have hrl : ∀ (i : Nat) (row : List T), (HY rows q rows2)[i]? = some row → row.length = e := by
  intro i row hi
  rw [Uc hq] at hi
  split at hi
  ·exact hn.2.1 _ row hi
  ·exact h5.2.1 _ row hi
 refine .inr ⟨β, cap, FR arr (q * e) news.toList, el, h0, by rw [Jc hq]; exact h1, by rw [EC, if_pos ⟨rfl, hlt⟩], by rw [Jc hq]; exact h3, by rw [GK, h4], hrl, ?_⟩
 intro i row j t hi hj
 have hj' := AC hj
 have hre := hrl i row hi
 rw [Uc hq] at hi
 rw [Fx _ _ _ _ (by simp; omega)]
 simp only [zI0, hns]
 split at hi
 ·rename_i hin
  have hle2 : (i - q) * e + e ≤ rows2.length * e := by rw [← zC7]; exact zA3 e (by omega)
  have hsp : i * e = q * e + (i - q) * e := by rw [← zD7]; congr 1; omega
  rw [if_pos (by omega)]
  have := hn.2.2 _ row j t hi hj
  rw [zA1] at this
  have h6 : (news.toList[i * e + j - q * e]?).getD undef = Aw news ((i - q) * e + j) := by
   rw [show i * e + j - q * e = (i - q) * e + j from by omega]
   unfold Aw; simp
  rw [h6]
  exact this.mono hS fun _ h => h
 ·rename_i hin
  rw [if_neg]
  ·have := h5.2.2 _ row j t hi hj
   rw [zA1] at this
   exact this.mono hS fun _ h => h
  ·rintro ⟨k1, k2⟩
   by_cases hiq : i < q
   ·have : i * e + e ≤ q * e := by rw [← zC7]; exact zA3 e hiq
    omega
   ·have : q * e + rows2.length * e ≤ i * e := by rw [← zD7]; exact zA3 e (by omega)
    omega
theorem VQ {x : Operand} {t el s e l h b lo0 len : Nat} {lo hi : Option Operand} {rl rh : List (Operand × D)} {rows : List (List T)} {d : D} (hat : At st.env ops i X.n (.slice t x lo hi none) s gs)
  (hx : opd st.env x = some d) (hD : N5 d b e rows lo0 len) (hb : st.bx b = some (.vec e rows)) (ht : sliceB P t el = true) (he : HK P el e = true) (hlo : Vn lo 0 l rl) (hhi : Vn hi len h rh) (h1 : F2 st.env rl) (h2 : F2 st.env rh) (hlh : l ≤ h) (hhl : lo0 + h ≤ rows.length)
  (next : A8 P X ops dr Q r (i + 1) (CM.upd ⟨gs ++ ((x, d) :: (rl ++ rh)), [(b, .vec e rows)], some s, some (.e (.one (.view b e (lo0 + l) (h - l)))), [], []⟩ st) ((i, ⟨gs ++ ((x, d) :: (rl ++ rh)), [(b, .vec e rows)], some s, some (.e (.one (.view b e (lo0 + l) (h - l)))), [], []⟩) :: log)) : A8 P X ops dr Q (r + 1) i st log := by
 obtain ⟨o, ho, hop, hd, hn, hg, hgp⟩ := hat.out
 refine A8.step next ⟨Ak.2 ⟨hgp, hx, Ak.2 ⟨h1, h2⟩⟩, ⟨hb, trivial⟩, trivial⟩ (LR.value ho hg rfl hd.symm (Dx hd hn) ?_)
 intro G st a w hs hpre
 obtain ⟨hx, h12⟩ := (Ak.1 hpre.r).2
 obtain ⟨h1, h2⟩ := Ak.1 h12
 have hb := hpre.b.1
 -- the header of the whole
 obtain ⟨a0, cap, k1, k2, k3⟩ := OH (hs.blk b _ hb)
 have hv : ∃ p, a.eval x = .slice p len (cap - lo0) ∧ lo0 + len ≤ rows.length ∧ (lo0 < cap → p = a0.map fun q => q.add (lo0 * e)) := by
  have hR := hs.opd hx
  cases hD with
  | own =>
   obtain ⟨hR, _⟩ : Fg P w G (a.eval x) (.own b) := hR
   exact ⟨a0, hR.trans k1, by omega, fun _ => by cases a0 <;> simp [Qz]⟩
  | view _ _ _ _ _ h' =>
   obtain ⟨a1, n1, cap1, p, g1, g2, g3, g4⟩ : Fg P w G (a.eval x) (.view b e lo0 len) := hR
   rw [k1] at g1; cases g1
   exact ⟨p, g3, h', g4⟩
 obtain ⟨p, hv1, hv2, hv3⟩ := hv
 refine ⟨.slice (if cap - lo0 = l then p else p.map (·.add (l * e))) (h - l) (cap - lo0 - l), w, G, ?_, hs, ?_⟩
 ·simp only [execOp, hop]
  refine Aj (a := .slice (if cap - lo0 = l then p else p.map (·.add (l * e))) (h - l) (cap - lo0 - l)) (w1 := w) ?_ rfl
  rw [hv1]
  exact KK (a := a) hs ht he hlo hhi h1 h2 hlh (by omega)
 ·rintro d' ⟨⟩
  refine ⟨⟨a0, rows.length, cap, _, k1, by omega, by rw [show cap - lo0 - l = cap - (lo0 + l) from by omega], fun hlt => ?_⟩, fun b' hb' => ?_⟩
  ·rw [if_neg (by omega), hv3 (by omega)]
   obtain ⟨β, arr, el', g1, _⟩ := k3 (by omega)
   subst g1
   simp only [zE8, Addr.add_mk, zD7, zA1]
  ·simp [D.names, E.names, C.names] at hb'
   subst hb'
   simp [Bj, hb]
theorem Y2 {x : Operand} {s t el b e lo len : Nat} (hat : At st.env ops i X.n (.call ⟨.builtin .len, #[x], #[t]⟩) s gs)
  (hx : opd st.env x = some (.e (.one (.view b e lo len)))) (ht : sliceB P t el = true)
  (next : A8 P X ops dr Q r (i + 1) (CM.upd ⟨gs ++ [(x, .e (.one (.view b e lo len)))], [], some s, some (vD (goInt len)), [], []⟩ st) ((i, ⟨gs ++ [(x, .e (.one (.view b e lo len)))], [], some s, some (vD (goInt len)), [], []⟩) :: log)) : A8 P X ops dr Q (r + 1) i st log := by
 obtain ⟨o, ho, hop, hd, hn, hg, hgp⟩ := hat.out
 refine A8.step next ⟨Ak.2 ⟨hgp, hx, trivial⟩, trivial, trivial⟩ (LR.value ho hg rfl hd.symm (Dx hd hn) ?_)
 intro G st a w hs hpre
 obtain ⟨hx, _⟩ := (Ak.1 hpre.r).2
 obtain ⟨a1, n1, cap1, p, k1, k2, k3, k4⟩ : Fg P w G (a.eval x) (.view b e lo len) := hs.opd hx
 refine ⟨goInt len, w, G, ?_, hs, ?_⟩
 ·simp only [execOp, hop]
  refine FE fun cs => ?_
  simp only [zF4, zC3, zG7, builtin, k3]
  exact Aj (Kt ht) rfl
 ·rintro d ⟨⟩
  exact ⟨.val _ rfl, fun b hb => by cases hb⟩
theorem VN {x y : Operand} {s e b lo len : Nat} {rows : List (List T)} {_row : List T} {t el : TypeId} {k : IntKind} {n : Int} (hat : At st.env ops i X.n (.indexAddr t x y) s gs)
  (hx : opd st.env x = some (.e (.one (.view b e lo len)))) (hle : lo + len ≤ rows.length) (hy : opd st.env y = some (vD (.int k n))) (hb : st.bx b = some (.vec e rows)) (ht : sliceB P t el = true) (hz : HK P el e = true) (h0 : 0 ≤ n) (hn1 : n.toNat < len)
  (next : A8 P X ops dr Q r (i + 1) (CM.upd ⟨gs ++ [(x, .e (.one (.view b e lo len))), (y, vD (.int k n))], [(b, .vec e rows)], some s, some (.e (.one (.eptr b e (lo + n.toNat) 0))), [], []⟩ st) ((i, ⟨gs ++ [(x, .e (.one (.view b e lo len))), (y, vD (.int k n))], [(b, .vec e rows)], some s, some (.e (.one (.eptr b e (lo + n.toNat) 0))), [], []⟩) :: log)) : A8 P X ops dr Q (r + 1) i st log := by
 obtain ⟨o, ho, hop, hd, hn, hg, hgp⟩ := hat.out
 refine A8.step next ⟨Ak.2 ⟨hgp, hx, hy, trivial⟩, ⟨hb, trivial⟩, trivial⟩ (LR.value ho hg rfl hd.symm (Dx hd hn) ?_)
 intro G st a w hs hpre
 obtain ⟨hx, hy, _⟩ := (Ak.1 hpre.r).2
 have hb := hpre.b.1
 obtain ⟨p, cap', h1, h2, h3, h4⟩ := hs.dstV hx (.view b e rows lo len hle) hb
 have hY : a.eval y = .int k n := E7 (hs.opd hy : Ea w G.S (a.eval y) (.val _))
 obtain ⟨β, cap, arr, el', g1, g2, g3, g4, g5, g6, g7⟩ := h4 (by omega)
 subst g4
 refine ⟨_, w, G, by simp only [execOp, hop, h1, hY]; exact Aj (JB ht hz h0 hn1) rfl, hs, ?_⟩
 rintro d ⟨⟩
 exact ⟨⟨β, g1, by simp [zD7]⟩, fun b' hb' => hs.opd_live hx b' (by simpa [D.names, E.names, C.names] using hb')⟩
theorem Wm {t t2 el e : Nat} {w : World} {p p2 : Option Addr} {dl dc n2 c2 : Nat} {news : Array Value} {ty : TypeId} (ht : sliceB P t el = true) (he : HK P el e = true) (hnew : (Builtin.firstCells e (zE5 n2 dl) (.slice p2 n2 c2)).run P w = .ok news w) {w' : World}
  (hst : ∀ q, p = some q → (storeCells q news.toList).run P w = .ok () w') (hno : p = none → w' = w) : (Builtin.copy_ #[t, t2] ty #[.slice p dl dc, .slice p2 n2 c2]).run P w = .ok (goInt (zE5 n2 dl)) w' := by
 unfold sliceB at ht
 split at ht
 ·rename_i e' hu
  have : e' = el := by simpa using ht
  subst this
  unfold Builtin.copy_
  refine Aj (AO hu w) ?_
  refine Aj (a := n2) (w1 := w) rfl ?_
  refine Aj (EB he w) ?_
  refine Aj hnew ?_
  cases p with
  | none => rw [hno rfl]; rfl
  | some q => exact Aj (hst q rfl) rfl
 ·cases ht
theorem Zq {x y : Operand} {t t2 el s e b lo len : Nat} {d d2 : D} {rb2 : List (Nat × BH)} {rows rows2 rows' : List (List T)} (hat : At st.env ops i X.n (.call ⟨.builtin .copy, #[x, y], #[t, t2]⟩) s gs)
  (hx : opd st.env x = some d) (hD : N5 d b e rows lo len) (hb : st.bx b = some (.vec e rows)) (hy : opd st.env y = some d2) (hS : PK d2 rb2 e rows2) (hb2 : Hz st.bx rb2) (ht : sliceB P t el = true) (he : HK P el e = true) (hr : HY rows lo (rows2.take (zE5 rows2.length len)) = rows')
  (next : A8 P X ops dr Q r (i + 1) (CM.upd ⟨gs ++ [(x, d), (y, d2)], (b, .vec e rows) :: rb2, some s, some (vD (goInt (zE5 rows2.length len))), [(b, .vec e rows')], []⟩ st) ((i, ⟨gs ++ [(x, d), (y, d2)], (b, .vec e rows) :: rb2, some s, some (vD (goInt (zE5 rows2.length len))), [(b, .vec e rows')], []⟩) :: log)) : A8 P X ops dr Q (r + 1) i st log := by
 obtain ⟨o, ho, hop, hd, hn, hg, hgp⟩ := hat.out
 refine A8.step next ⟨Ak.2 ⟨hgp, hx, hy, trivial⟩, ⟨hb, hb2⟩, trivial⟩ (LR.value ho hg rfl hd.symm (Dx hd hn) ?_)
 intro G st a w hs hpre
 obtain ⟨hx, hy, _⟩ := (Ak.1 hpre.r).2
 obtain ⟨hb, hb2⟩ := hpre.b
 subst hr
 obtain ⟨p, cap', h1, h2, h3, h4⟩ := hs.dstV hx hD hb
 obtain ⟨p2, cap2, k1, k2⟩ := hs.srcW hy hS hb2
 have hmin : zE5 rows2.length len ≤ rows2.length := Nat.min_le_left _ _
 have hmin2 : zE5 rows2.length len ≤ len := Nat.min_le_right _ _
 obtain ⟨news, n1, n2, n3⟩ := Q6 (P := P) (len := rows2.length) (cap := cap2) hmin k2
 have hl2 : (rows2.take (zE5 rows2.length len)).length = zE5 rows2.length len := by rw [List.length_take]; exact Nat.min_eq_left hmin
 have hrun : ∀ w', (∀ q, p = some q → (storeCells q news.toList).run P w = .ok () w') → (p = none → w' = w) → (execOp a.eval o).run P w = .ok (.value (goInt (zE5 rows2.length len))) w' := fun w' g1 g2 => by
  simp only [execOp, hop]
  refine FE fun cs => ?_
  simp only [zF4, zC3, zG7, builtin, h1, k1]
  exact Aj (Wm ht he n1 g1 g2) rfl
 have fin : ∀ d', some (vD (goInt (zE5 rows2.length len))) = some d' → ∀ w' (G' : Gh), Hj P w' G' (goInt (zE5 rows2.length len)) d' ∧ ∀ c, c ∈ d'.names → (Bj st.bx [(b, .vec e (HY rows lo (rows2.take (zE5 rows2.length len))))] c).isSome = true := fun d' hd' w' G' => by
  cases hd'; exact ⟨.val _ rfl, fun c hc => by cases hc⟩
 by_cases hlt : lo < rows.length
 ·obtain ⟨β, cap, arr, el', g1, g2, g3, g4, g5, g6, g7⟩ := h4 hlt
  subst g4
  have hat := hs.at_ok b _ β hb rfl (.inl g1)
  have hle : lo * e + zE5 rows2.length len * e ≤ arr.size := by rw [g6, ← zD7]; exact zA3 e (by omega)
  have hst := FX (P := P) (β := β) (el := el') news.toList w (lo * e) 0 arr g5 (by simp [n3]; omega) (ED.ones n2 (by rw [n3, hl2]))
  rw [zF9] at hst
  refine ⟨_, _, G, hrun _ (fun q hq => by cases hq; exact hst) (fun h => by cases h), ?_, fun d' hd' => fin d' hd' _ _⟩
  exact hs.setB (b := b) (k0 := .vec e rows) hb rfl rfl (.inl g1) (RJ hat.2.1 hat.2.2 g1 g2 g3 g6 g7 n2 (by rw [n3, hl2]) (by rw [hl2]; omega)) (fun c hc => by cases hc)
 ·have hz : zE5 rows2.length len = 0 := by omega
  have hn0 : news.toList = [] := zD1 (by simp [n3, hz])
  have hsp : HY rows lo (rows2.take (zE5 rows2.length len)) = rows := by
   have : lo = rows.length := by omega
   rw [hz]; unfold HY; simp [this]
  refine ⟨_, w, G, hrun w (fun q _ => by rw [hn0]; rfl) (fun _ => rfl), ?_, fun d' hd' => fin d' hd' _ _⟩
  have : (⟨st.env, Bj st.bx [(b, .vec e (HY rows lo (rows2.take (zE5 rows2.length len))))]⟩ : St) = st := by
   refine St.ext (fun _ => rfl) fun c => ?_
   simp only [Bj]
   split
   ·rename_i e1; rw [e1, hsp, hb]
   ·rfl
  rw [this]; exact hs
theorem Or {w : World} {S : Nat → Prop} {z : Value} {zs : List Value} {e n : Nat} (hzs : z.cells.toList = zs) (hz1 : zs.all G8 = true) (hze : zs.length = e) : ED w S (Builtin.zeroCells z.cells n) e 0 (zA2 n (zs.map fun v => (T.of v).nrm)) ∧ (Builtin.zeroCells z.cells n).size = n * e := by
 have hsz : z.cells.size = e := by rw [← hze, ← hzs]; simp
 have hsize : (Builtin.zeroCells z.cells n).size = n * e := by unfold Builtin.zeroCells; simp [hsz]
 refine ⟨⟨by rw [hsize]; simp, ?_, ?_⟩, hsize⟩
 ·intro i row hi
  rw [List.getElem?_replicate] at hi
  split at hi
  ·cases hi; simp [hze]
  ·cases hi
 ·intro i row j t hi hj
  rw [List.getElem?_replicate] at hi
  split at hi
  ·rename_i hlt
   cases hi
   rw [zA6] at hj
   cases hv : zs[j]? with
   | none => rw [hv] at hj; cases hj
   | some v =>
    rw [hv] at hj; cases hj
    have hj' : j < e := by rw [← hze]; exact AC hv
    have hle : i * e + e ≤ n * e := by rw [← zC7]; exact zA3 e hlt
    have hc : Aw (Builtin.zeroCells z.cells n) (0 + i * e + j) = v := by
     unfold Aw Builtin.zeroCells
     rw [zA1, hsz]
     have h1 : i * e + j < n * e := by omega
     rw [Array.getElem?_map, show (Array.range (n * e))[i * e + j]? = some (i * e + j) from by simp [h1]]
     simp only [zE8, zC9]
     have h2 : (i * e + j) % e = j := by rw [Nat.add_comm, Nat.add_mul_mod_self_right, Nat.mod_eq_of_lt hj']
     rw [h2]
     have h3 : z.cells[j]? = some v := by rw [← Array.getElem?_toList, hzs]; exact hv
     show z.cells[j]! = v
     rw [Array.getElem!_eq_getD, zE3, h3]; rfl
    rw [hc]
    exact (Ea.of (zA5.1 hz1 v (lM hv))).nrm
  ·cases hi
theorem WV {x : Operand} {t el b e lo len : Nat} {z : Value} {zs : List Value} {d : D} {rows rows' : List (List T)} (hop0 : S3 ops i = some (.call ⟨.builtin .clear, #[x], #[t]⟩))
  (hx : opd st.env x = some d) (hD : N5 d b e rows lo len) (hb : st.bx b = some (.vec e rows)) (ht : sliceB P t el = true) (hz : EE P el = some z) (hzs : z.cells.toList = zs) (hz1 : zs.all G8 = true) (hze : zs.length = e)
  (hr : HY rows lo (zA2 len (zs.map fun v => (T.of v).nrm)) = rows')
  (next : A8 P X ops dr Q r (i + 1) (CM.upd ⟨[(x, d)], [(b, .vec e rows)], none, none, [(b, .vec e rows')], []⟩ st) ((i, ⟨[(x, d)], [(b, .vec e rows)], none, none, [(b, .vec e rows')], []⟩) :: log)) : A8 P X ops dr Q (r + 1) i st log := by
 obtain ⟨o, ho, hop, hd, hgn⟩ := Oh hop0
 have hg : Wb ops o [] := .none hgn
 refine A8.step next ⟨⟨hx, trivial⟩, ⟨hb, trivial⟩, trivial⟩ (LR.value (rs := [(x, d)]) ho hg rfl hd.symm (fun s h => by rw [hd] at h; cases h) ?_)
 intro G st a w hs hpre
 have hx := hpre.r.1
 have hb := hpre.b.1
 subst hr
 obtain ⟨p, cap', h1, h2, h3, h4⟩ := hs.dstV hx hD hb
 obtain ⟨n2, n3⟩ := Or (w := w) (S := G.S) (n := len) hzs hz1 hze
 have hl2 : (zA2 len (zs.map fun v => (T.of v).nrm)).length = len := by simp
 have hrun : ∀ w', (len ≠ 0 → ∃ q, p = some q ∧ (storeCells q (Builtin.zeroCells z.cells len).toList).run P w = .ok () w') → (len = 0 → w' = w) → (execOp a.eval o).run P w = .ok (.value (.tuple #[])) w' := fun w' g1 g2 => by
  simp only [execOp, hop]
  refine FE fun cs => ?_
  simp only [zF4, zC3, zG7, builtin, h1]
  refine Aj (a := .tuple #[]) (w1 := w') ?_ rfl
  unfold sliceB at ht
  split at ht
  ·rename_i e' hu
   have : e' = el := by simpa using ht
   subst this
   unfold Builtin.clear_
   refine Aj (AO hu w) ?_
   by_cases hz0 : len = 0
   ·rw [g2 hz0]
    subst hz0
    cases p <;> rfl
   ·obtain ⟨q, hq, hst⟩ := g1 hz0
    subst hq
    obtain ⟨len', rfl⟩ : ∃ m, len = m + 1 := ⟨len - 1, (Nat.succ_pred_eq_of_pos (Nat.pos_of_ne_zero hz0)).symm⟩
    refine Aj (FH hz w) ?_
    exact Aj hst rfl
  ·cases ht
 have fin : ∀ (d' : D), (none : Option D) = some d' → ∀ w', Hj P w' G (.tuple #[]) d' ∧ ∀ c, c ∈ d'.names → (Bj st.bx [(b, .vec e (HY rows lo (zA2 len (zs.map fun v => (T.of v).nrm))))] c).isSome = true := fun d' hd' => by cases hd'
 by_cases hz0 : len = 0
 ·have hsp : HY rows lo (zA2 len (zs.map fun v => (T.of v).nrm)) = rows := by rw [hz0]; unfold HY; simp
  refine ⟨_, w, G, hrun w (fun h => (h hz0).elim) (fun _ => rfl), ?_, fun d' hd' => fin d' hd' _⟩
  have : (⟨st.env, Bj st.bx [(b, .vec e (HY rows lo (zA2 len (zs.map fun v => (T.of v).nrm))))]⟩ : St) = st := by
   refine St.ext (fun _ => rfl) fun c => ?_
   simp only [Bj]
   split
   ·rename_i e1; rw [e1, hsp, hb]
   ·rfl
  rw [this]; exact hs
 ·have hlr : lo < rows.length := Nat.lt_of_lt_of_le (Nat.lt_add_of_pos_right (Nat.pos_of_ne_zero hz0)) h3
  obtain ⟨β, cap, arr, el', g1, g2, g3, g4, g5, g6, g7⟩ := h4 hlr
  subst g4
  have hat := hs.at_ok b _ β hb rfl (.inl g1)
  have hle : lo * e + len * e ≤ arr.size := by rw [g6, ← zD7]; exact zA3 e (by omega)
  have hst := FX (P := P) (β := β) (el := el') (Builtin.zeroCells z.cells len).toList w (lo * e) 0 arr g5 (by simp [n3]; omega) (ED.ones n2 (by rw [n3, hl2]))
  rw [zF9] at hst
  refine ⟨_, _, G, hrun _ (fun _ => ⟨_, rfl, hst⟩) (fun h => (hz0 h).elim), ?_, fun d' hd' => fin d' hd' _⟩
  exact hs.setB (b := b) (k0 := .vec e rows) hb rfl rfl (.inl g1) (RJ hat.2.1 hat.2.2 g1 g2 g3 g6 g7 n2 (by rw [n3, hl2]) (by rw [hl2]; exact h3)) (fun c hc => by cases hc)
end run
theorem Vj {st : St} (s b e : Nat) (rows : List (List T)) (hs0 : st.env s = some (.e (.one (.own b)))) (hb : st.bx b = some (.vec e rows)) : Gq P X st (St.put st (some s) (some (.e (.one (.view b e 0 rows.length))))) := by
 rintro a w ⟨G, h⟩
 obtain ⟨a0, cap, k1, k2, k3⟩ := OH (h.blk b _ hb)
 obtain ⟨hR, _⟩ : Fg P w G (Aw a.tmps s) (.own b) := h.env s _ hs0
 refine ⟨G, { h with env := ?_, live := ?_, blk := h.blk, at_ok := h.at_ok, at_inj := h.at_inj, liveB := h.liveB, nlt := h.nlt, lent := h.lent }⟩
 ·intro t d ht
  simp only [St.put] at ht
  split at ht
  ·rename_i e2; cases ht
   rw [e2]
   exact ⟨a0, rows.length, cap, a0, k1, by omega, by rw [hR, k1]; rfl, fun _ => by cases a0 <;> simp [Qz]⟩
  ·exact h.env t d ht
 ·intro t d ht c hc
  simp only [St.put] at ht
  split at ht
  ·cases ht
   simp [D.names, E.names, C.names] at hc
   subst hc
   show (st.bx c).isSome = true
   rw [hb]; rfl
  ·exact h.live t d ht c hc
theorem Xe {st : St} (s b n e len : Nat) (rows : List (List T)) (hs0 : st.env s = some (.e (.one (.view b e 0 len)))) (hb : st.bx b = some (.vec e rows)) (hn : st.bx n = none) (hlb : Bt b = false) (hln : Bt n = false) (hle : len ≤ rows.length) :
  Gq P X st (St.put ⟨st.env, Bj st.bx [(n, .vec e (rows.take len)), (b, .gone)]⟩ (some s) (some (.e (.one (.own n))))) := by
 rintro a w ⟨G, h⟩
 have hnb : n ≠ b := fun e => by rw [e, hb] at hn; cases hn
 obtain ⟨a0, n1, cap, p, k1, k2, k3, k4⟩ : Fg P w G (Aw a.tmps s) (.view b e 0 len) := h.env s _ hs0
 obtain ⟨a1, cap1, g1, g2, g3⟩ := OH (h.blk b _ hb)
 rw [g1] at k1; cases k1
 -- the new ghost
 have hlen : (rows.take len).length = len := by rw [List.length_take]; exact Nat.min_eq_left hle
 have hbx : ∀ c, Bj st.bx [(n, BH.vec e (rows.take len)), (b, .gone)] c = if c = n then some (.vec e (rows.take len)) else if c = b then some .gone else st.bx c := fun c => rfl
 have hext : ∀ l v, G.ext (G.set n l v) (fun c => (st.bx c).isSome = true) := fun l v => Gh.set_ext _ _ _ _ (by simp [hn])
 have key : ∃ l v, Aw a.tmps s = v ∧ (∃ q m c, v = .slice q m c) ∧ (∀ β, l = some β → G.loc b = some β) ∧ Eu P w (G.set n l v) n (.vec e (rows.take len)) := by
  by_cases hc : 0 < cap
  ·obtain ⟨β, arr, el, q1, q2, q3, q4, q5⟩ := g3 hc
   subst q1
   refine ⟨some β, .slice (some ⟨β, 0, none⟩) len cap, ?_, ⟨_, _, _, rfl⟩, fun γ hγ => by cases hγ; exact q2, ?_⟩
   ·rw [k3, k4 hc]; simp [Addr.add_mk]
   ·refine .inr ⟨β, cap, arr, el, by simp [Gh.set], by simp [Gh.set, hlen], q3, by rw [hlen]; omega, q4, fun i row hi => (q5.take (n := len)).2.1 i row hi, fun i row j t hi hj => ?_⟩
    have := (q5.take (n := len)).2.2 i row j t hi hj
    rw [zA1] at this
    exact this
  ·have hr0 : rows.length = 0 := by omega
   have hl0 : len = 0 := by omega
   have hc0 : cap = 0 := by omega
   refine ⟨none, .slice p 0 0, by rw [k3, hl0, hc0], ⟨_, _, _, rfl⟩, fun γ hγ => (by cases hγ), .inl ⟨p, by simp [Gh.set], by rw [hl0, List.take_zero], by simp [Gh.set]⟩⟩
 obtain ⟨l, v, hv1, hv2, hl, hblk⟩ := key
 have h1 : C5 P X (G.set n l v) ⟨st.env, Bj st.bx [(n, .vec e (rows.take len)), (b, .gone)]⟩ a w := by
  refine h.frame ?_ (hext l v) (fun _ _ => rfl) ?_ ?_ ?_ h.S_lt h.S_src h.below (Gh.set_lent _ _ hln)
  ·intro c hc; rw [hbx]; split
   ·rfl
   ·split
    ·rfl
    ·exact hc
  ·intro c k hc
   rw [hbx] at hc
   split at hc
   ·rename_i e2; subst e2; cases hc
    exact .inr ⟨hblk, fun c hc => by cases hc⟩
   ·split at hc
    ·cases hc; exact .inr ⟨trivial, fun c hc => by cases hc⟩
    ·exact .inl ⟨hc, fun _ _ _ => rfl⟩
  ·intro c k β hc hr hβ
   rw [hbx] at hc
   rw [Gh.set_has] at hβ
   split at hc
   ·rename_i e2; rw [if_pos e2] at hβ
    have h5 := h.at_ok b _ β hb rfl (.inl (hl β hβ))
    exact ⟨.new (h5.1.1 hlb), h5.2⟩
   ·rename_i e2; rw [if_neg e2] at hβ
    split at hc
    ·cases hc; cases hr
    ·exact h.at_ok c k β hc hr hβ
  ·intro c c' k k' β hc hc' hr hr' hβ hβ'
   rw [hbx] at hc hc'
   rw [Gh.set_has] at hβ hβ'
   have old : ∀ c k, (if c = n then some (BH.vec e (rows.take len)) else if c = b then some .gone else st.bx c) = some k → k.real = true → (if c = n then l = some β else G.has c β) → (c = n ∧ G.has b β) ∨ (c ≠ n ∧ c ≠ b ∧ st.bx c = some k ∧ G.has c β) := by
    intro c k hc hr hβ
    split at hc
    ·rename_i e2; rw [if_pos e2] at hβ; exact .inl ⟨e2, .inl (hl β hβ)⟩
    ·rename_i e2; rw [if_neg e2] at hβ
     split at hc
     ·cases hc; cases hr
     ·rename_i e3; exact .inr ⟨e2, e3, hc, hβ⟩
   rcases old c k hc hr hβ with ⟨h2, h3⟩ | ⟨h2, h3, h4, h5⟩ <;> rcases old c' k' hc' hr' hβ' with ⟨h2', h3'⟩ | ⟨h2', h3', h4', h5'⟩
   ·rw [h2, h2']
   ·exact (h3' (h.at_inj c' b _ _ β h4' hb hr' rfl h5' h3)).elim
   ·exact (h3 (h.at_inj c b _ _ β h4 hb hr rfl h5 h3')).elim
   ·exact h.at_inj c c' k k' β h4 h4' hr hr' h5 h5'
 refine ⟨G.set n l v, { h1 with env := ?_, live := ?_, blk := h1.blk, at_ok := h1.at_ok, at_inj := h1.at_inj, liveB := h1.liveB, nlt := h1.nlt, lent := h1.lent }⟩
 ·intro t d ht
  simp only [St.put] at ht
  split at ht
  ·rename_i e2; cases ht
   rw [e2, hv1]
   exact ⟨by simp [Gh.set], hv2⟩
  ·exact h1.env t d ht
 ·intro t d ht c hc
  simp only [St.put] at ht
  split at ht
  ·cases ht
   simp [D.names, E.names, C.names] at hc
   subst hc
   show (Bj st.bx [(c, .vec e (rows.take len)), (b, .gone)] c).isSome = true
   simp [Bj]
  ·exact h1.live t d ht c hc
end Go.Lift
namespace Go.Lift
open Go.RowKit
variable {P : Program} {X : Im} {ops : Array Oper}
def WN (a b : Int) : Int := if b < a then b else a
def UY (a b : Int) : Int := if b > a then b else a
def XZ (b : ByteArray) (i : Int) : Option Int := if 0 ≤ i then (b[i.toNat]?).map fun x => (x.toNat : Int) else none
theorem US {β : Type} {b : ByteArray} {i : Int} {f : Int → Option β} {r : β} (h : (XZ b i).bind f = some r) : ∃ x : UInt8, 0 ≤ i ∧ b[i.toNat]? = some x ∧ f (x.toNat : Int) = some r := by
 obtain ⟨x, h1, h2⟩ := bind_some h
 unfold XZ at h1
 split at h1
 ·rename_i h0
  cases hx : b[i.toNat]? with
  | none => rw [hx] at h1; cases h1
  | some y => rw [hx] at h1; cases h1; exact ⟨y, h0, rfl, h2⟩
 ·cases h1
def CP (xs : List Int) : ByteArray := xs.foldl (fun s n => s.push (UInt8.ofNat n.toNat)) ByteArray.empty
section run
variable {dr : Bool} {Q : St → Prop} {r i : Nat} {st : St} {log : List (Nat × CM)} {o : Oper} {gs : List (Operand × D)}
theorem aW {x y : Operand} {t t2 s : Nat} {k k2 : IntKind} {a0 b0 : Int} (hat : At st.env ops i X.n (.call ⟨.builtin .min, #[x, y], #[t, t2]⟩) s gs)
  (hx : opd st.env x = some (vD (.int k a0))) (hy : opd st.env y = some (vD (.int k2 b0)))
  (next : A8 P X ops dr Q r (i + 1) (CM.upd ⟨gs ++ [(x, vD (.int k a0)), (y, vD (.int k2 b0))], [], some s, some (vD (.int k (WN a0 b0))), [], []⟩ st) ((i, ⟨gs ++ [(x, vD (.int k a0)), (y, vD (.int k2 b0))], [], some s, some (vD (.int k (WN a0 b0))), [], []⟩) :: log)) : A8 P X ops dr Q (r + 1) i st log := by
 obtain ⟨o, ho, hop, hd, hn, hg, hgp⟩ := hat.out
 refine A8.step next ⟨Ak.2 ⟨hgp, hx, hy, trivial⟩, trivial, trivial⟩ (LR.value ho hg rfl hd.symm (Dx hd hn) ?_)
 intro G st a w hs hpre
 obtain ⟨hx, hy, _⟩ := (Ak.1 hpre.r).2
 have h1 : a.eval x = .int k a0 := E7 (hs.opd hx : Ea w G.S (a.eval x) (.val _))
 have h2 : a.eval y = .int k2 b0 := E7 (hs.opd hy : Ea w G.S (a.eval y) (.val _))
 refine ⟨.int k (WN a0 b0), w, G, ?_, hs, ?_⟩
 ·simp only [execOp, hop]
  refine FE fun cs => ?_
  simp only [zF4, zC3, zG7, builtin, h1, h2]
  rfl
 ·rintro d ⟨⟩
  exact ⟨.val _ rfl, fun b hb => by cases hb⟩
theorem bI {x y : Operand} {t t2 s : Nat} {k k2 : IntKind} {a0 b0 : Int} (hat : At st.env ops i X.n (.call ⟨.builtin .max, #[x, y], #[t, t2]⟩) s gs)
  (hx : opd st.env x = some (vD (.int k a0))) (hy : opd st.env y = some (vD (.int k2 b0)))
  (next : A8 P X ops dr Q r (i + 1) (CM.upd ⟨gs ++ [(x, vD (.int k a0)), (y, vD (.int k2 b0))], [], some s, some (vD (.int k (UY a0 b0))), [], []⟩ st) ((i, ⟨gs ++ [(x, vD (.int k a0)), (y, vD (.int k2 b0))], [], some s, some (vD (.int k (UY a0 b0))), [], []⟩) :: log)) : A8 P X ops dr Q (r + 1) i st log := by
 obtain ⟨o, ho, hop, hd, hn, hg, hgp⟩ := hat.out
 refine A8.step next ⟨Ak.2 ⟨hgp, hx, hy, trivial⟩, trivial, trivial⟩ (LR.value ho hg rfl hd.symm (Dx hd hn) ?_)
 intro G st a w hs hpre
 obtain ⟨hx, hy, _⟩ := (Ak.1 hpre.r).2
 have h1 : a.eval x = .int k a0 := E7 (hs.opd hx : Ea w G.S (a.eval x) (.val _))
 have h2 : a.eval y = .int k2 b0 := E7 (hs.opd hy : Ea w G.S (a.eval y) (.val _))
 refine ⟨.int k (UY a0 b0), w, G, ?_, hs, ?_⟩
 ·simp only [execOp, hop]
  refine FE fun cs => ?_
  simp only [zF4, zC3, zG7, builtin, h1, h2]
  rfl
 ·rintro d ⟨⟩
  exact ⟨.val _ rfl, fun b hb => by cases hb⟩
theorem Tw {x : Operand} {s b k : Nat} (hat : At st.env ops i X.n (.nilCheck x) s gs) (hx : opd st.env x = some (.e (.one (.ptr b k))))
  (next : A8 P X ops dr Q r (i + 1) (CM.upd ⟨gs ++ [(x, .e (.one (.ptr b k)))], [], some s, some (.e (.one (.ptr b k))), [], []⟩ st) ((i, ⟨gs ++ [(x, .e (.one (.ptr b k)))], [], some s, some (.e (.one (.ptr b k))), [], []⟩) :: log)) : A8 P X ops dr Q (r + 1) i st log := by
 obtain ⟨o, ho, hop, hd, hn, hg, hgp⟩ := hat.out
 refine A8.step next ⟨Ak.2 ⟨hgp, hx, trivial⟩, trivial, trivial⟩ (LR.value ho hg rfl hd.symm (Dx hd hn) ?_)
 intro G st a w hs hpre
 obtain ⟨hx, _⟩ := (Ak.1 hpre.r).2
 obtain ⟨β, hβ, hv⟩ : Fg P w G (a.eval x) (.ptr b k) := hs.opd hx
 refine ⟨.pointer (some ⟨β, k, none⟩), w, G, ?_, hs, ?_⟩
 ·simp only [execOp, hop, hv]; rfl
 ·rintro d ⟨⟩
  exact ⟨⟨β, hβ, rfl⟩, fun b' hb' => hs.opd_live hx b' hb'⟩
theorem S5 {x : Operand} {b e ix k n s : Nat} {rows : List (List T)} {row us : List T} {t : TypeId} (hat : At st.env ops i X.n (.load t x) s gs)
  (hx : opd st.env x = some (.e (.one (.eptr b e ix k)))) (ht : Fp P t true = true) (hz : HK P t n = true) (hb : st.bx b = some (.vec e rows)) (hrow : rows[ix]? = some row) (hc : (row.drop k).take n = us) (hl : us.length = n) (hn0 : 0 < n)
  (next : A8 P X ops dr Q r (i + 1) (CM.upd ⟨gs ++ [(x, .e (.one (.eptr b e ix k)))], [(b, .vec e rows)], some s, some (.e (.agg (us.map C.pure))), [], []⟩ st) ((i, ⟨gs ++ [(x, .e (.one (.eptr b e ix k)))], [(b, .vec e rows)], some s, some (.e (.agg (us.map C.pure))), [], []⟩) :: log)) : A8 P X ops dr Q (r + 1) i st log := by
 obtain ⟨o, ho, hop, hd, hn, hg, hgp⟩ := hat.out
 refine A8.step next ⟨Ak.2 ⟨hgp, hx, trivial⟩, ⟨hb, trivial⟩, trivial⟩ (LR.value ho hg rfl hd.symm (Dx hd hn) ?_)
 intro G st a w hs hpre
 have hx := (Ak.1 hpre.r).2.1
 have hb := hpre.b.1
 obtain ⟨β, hβ, hv⟩ : Fg P w G (a.eval x) (.eptr b e ix k) := hs.opd hx
 rcases hs.blk b _ hb with ⟨_, _, h0, _⟩ | ⟨β', cap, arr, el, h0, h1, h2, h3, h4, h5, h6⟩
 ·subst h0; simp at hrow
 rw [hβ] at h0; cases h0
 have hre := h5 ix row hrow
 have hix := AC hrow
 have hkn : k + n ≤ row.length := by
  have := congrArg zH1 hc
  simp at this; omega
 have hbnd : ix * e + e ≤ arr.size := by
  rw [h4, ← zC7]; exact zA3 e (by omega)
 have hbnd2 : ix * e + k + n ≤ arr.size := by omega
 refine ⟨.agg ((zB1 n).map fun j => Aw arr (ix * e + k + j)).toArray, w, G, ?_, hs, ?_⟩
 ·simp only [execOp, hop, hv]
  exact Aj (Jn ht hz h2 hbnd2) rfl
 ·rintro d ⟨⟩
  refine ⟨L8 hl fun j u hj => ?_, fun b hb => ?_⟩
  ·have hjn := AC hj
   rw [← hc, zC1 (by omega), zD5] at hj
   have := h6 ix row _ u hrow hj
   rwa [← zF3] at this
  ·have hb' : b ∈ EL (us.map C.pure) := hb
   rw [KT] at hb'; cases hb'
def PX (P : Program) (t : TypeId) : Bool := match P.underlying t with | some .string => true | _ => false
theorem Xa {x y : Operand} {t s : Nat} {b : ByteArray} {k : IntKind} {n : Int} {c : UInt8} (hat : At st.env ops i X.n (.index t x y) s gs)
  (hx : opd st.env x = some (vD (.string b))) (hy : opd st.env y = some (vD (.int k n))) (ht : PX P t = true) (h0 : 0 ≤ n) (hc : b[n.toNat]? = some c)
  (next : A8 P X ops dr Q r (i + 1) (CM.upd ⟨gs ++ [(x, vD (.string b)), (y, vD (.int k n))], [], some s, some (vD (.int .u8 (c.toNat : Int))), [], []⟩ st) ((i, ⟨gs ++ [(x, vD (.string b)), (y, vD (.int k n))], [], some s, some (vD (.int .u8 (c.toNat : Int))), [], []⟩) :: log)) : A8 P X ops dr Q (r + 1) i st log := by
 obtain ⟨o, ho, hop, hd, hn, hg, hgp⟩ := hat.out
 refine A8.step next ⟨Ak.2 ⟨hgp, hx, hy, trivial⟩, trivial, trivial⟩ (LR.value ho hg rfl hd.symm (Dx hd hn) ?_)
 intro G st a w hs hpre
 obtain ⟨hx, hy, _⟩ := (Ak.1 hpre.r).2
 have h1 : a.eval x = .string b := E7 (hs.opd hx : Ea w G.S (a.eval x) (.val _))
 have h2 : a.eval y = .int k n := E7 (hs.opd hy : Ea w G.S (a.eval y) (.val _))
 refine ⟨.int .u8 (c.toNat : Int), w, G, ?_, hs, ?_⟩
 ·simp only [execOp, hop, h1, h2]
  refine Aj (a := .int .u8 (c.toNat : Int)) (w1 := w) ?_ rfl
  unfold PX at ht
  split at ht
  ·rename_i hu
   unfold Instr.index
   refine Aj (a := (k, n)) (w1 := w) rfl ?_
   refine Aj (AO hu w) ?_
   simp only [h0, if_true, hc]
   rfl
  ·cases ht
 ·rintro d ⟨⟩
  exact ⟨.val _ rfl, fun b hb => by cases hb⟩
def Q3 (P : Program) (s : TypeId) : Bool := match P.underlying s with | some (.slice e) => (match P.underlying e with | some (.int .u8) => true | _ => false) | _ => false
theorem PY {w : World} {a : Addr} {len cap : Nat} {xs : List Int} (h : (loadCells a len).run P w = .ok (xs.map fun n => Value.int .u8 n).toArray w) : (Conv.bytesToString (.slice (some a) len cap)).run P w = .ok (.string (CP xs)) w := by
 unfold Conv.bytesToString
 refine Aj h ?_
 have key : ∀ (xs : List Int) (s : ByteArray), (forIn (m := Sem) (xs.map fun n => Value.int .u8 n) s (fun c r => (match c with
   | .int .u8 n => pure (ForInStep.yield (r.push (UInt8.ofNat n.toNat)))
   | _ => do stuck "bytesToString: byte expected" : Sem (ForInStep ByteArray)))).run P w = .ok (xs.foldl (fun s n => s.push (UInt8.ofNat n.toNat)) s) w := by
  intro xs
  induction xs with
  | nil => intro s; rfl
  | cons x xs ih =>
   intro s
   rw [zC3, List.forIn_cons]
   refine Aj (a := ForInStep.yield (s.push (UInt8.ofNat x.toNat))) (w1 := w) rfl ?_
   exact ih _
 have h2 := key xs ByteArray.empty
 rw [← List.forIn_toArray] at h2
 refine Aj (a := CP xs) (w1 := w) ?_ rfl
 exact h2
theorem Vs {x : Operand} {t t2 s : Nat} {d : D} {rb : List (Nat × BH)} {rows : List (List T)} (xs : List Int) (hat : At st.env ops i X.n (.convert t t2 x) s gs)
  (hx : opd st.env x = some d) (hS : PK d rb 1 rows) (hb : Hz st.bx rb) (hr : rows = xs.map fun n => [T.val (.int .u8 n)]) (ht : Q3 P t = true) (ht2 : PX P t2 = true)
  (next : A8 P X ops dr Q r (i + 1) (CM.upd ⟨gs ++ [(x, d)], rb, some s, some (vD (.string (CP xs))), [], []⟩ st) ((i, ⟨gs ++ [(x, d)], rb, some s, some (vD (.string (CP xs))), [], []⟩) :: log)) : A8 P X ops dr Q (r + 1) i st log := by
 obtain ⟨o, ho, hop, hd, hn, hg, hgp⟩ := hat.out
 refine A8.step next ⟨Ak.2 ⟨hgp, hx, trivial⟩, hb, trivial⟩ (LR.value ho hg rfl hd.symm (Dx hd hn) ?_)
 intro G st a w hs hpre
 obtain ⟨hx, _⟩ := (Ak.1 hpre.r).2
 have hb := hpre.b
 obtain ⟨p, cap, h1, h2⟩ := hs.srcW hx hS hb
 subst hr
 refine ⟨.string (CP xs), w, G, ?_, hs, ?_⟩
 ·simp only [execOp, hop]
  refine Aj (a := .string (CP xs)) (w1 := w) ?_ rfl
  unfold Q3 at ht
  split at ht
  ·rename_i e hu
   split at ht
   ·rename_i hu2
    unfold PX at ht2
    split at ht2
    ·rename_i hu3
     unfold convert
     refine Aj (AO hu w) ?_
     refine Aj (AO hu3 w) ?_
     rw [h1]
     simp only [zC2]
     refine Aj (AO hu2 w) ?_
     rcases h2 with h2 | ⟨β, off, arr, el, fz, h3, h4, h5⟩
     ·have hx0 : xs = [] := by simpa using h2
      subst hx0
      cases p with
      | none => rfl
      | some q => exact PY (xs := []) (by unfold loadCells loadCellsFrom; rfl)
     ·subst h3
      refine PY ?_
      have hsz : off + xs.length ≤ arr.size := by have := h5.1; simpa using this
      rw [G9 h4 hsz]
      congr 1
      apply congrArg List.toArray
      apply List.ext_getElem?
      intro j
      rw [zA6, zA6]
      by_cases hj : j < xs.length
      ·have hxj : xs[j]? = some xs[j] := by simp [hj]
       rw [List.getElem?_range hj, hxj]
       simp only [zE8, Option.some.injEq]
       have hrow : (xs.map fun n => [T.val (.int .u8 n)])[j]? = some [T.val (.int .u8 xs[j])] := by rw [zA6, hxj]; rfl
       have := h5.2.2 j _ 0 _ hrow rfl
       rw [Nat.mul_one, zF9] at this
       exact E7 this
      ·rw [zB9 (by simp; omega), zB9 (by omega)]; rfl
    ·cases ht2
   ·cases ht
  ·cases ht
 ·rintro d ⟨⟩
  exact ⟨.val _ rfl, fun b hb => by cases hb⟩
end run
section maps
variable {K V : Type}
def JQ [BEq K] (k : K) : List (K × V) → Option V
 | [] => none
 | p :: r => if k == p.1 then some p.2 else JQ k r
def Nu [BEq K] (k : K) (v : V) : List (K × V) → List (K × V)
 | [] => [(k, v)]
 | p :: r => if k == p.1 then (k, v) :: r else p :: Nu k v r
def I9 (kv : K → Value) (vt : V → T) (m : List (K × V)) : List (Value × T) := m.map fun p => (kv p.1, vt p.2)
end maps
structure RY {K : Type} [BEq K] (P : Program) (t : TypeId) (kv : K → Value) : Prop where
 ty : ∃ kt el kd, P.underlying t = some (.map kt el) ∧ P.underlying kt = some kd ∧ (∀ a b : K, Instr.sameNow kd (kv a) (kv b) = some (a == b)) ∧ (∀ (e : Bool) (n : Nat) (v : K) (w : World), (Instr.checkKey e (n + 1) kt (kv v)).run P w = .ok () w)
 same : ∀ a b : K, (a == b) = true → Instr.sameBits 10000 (kv b) (kv a) = true
theorem K8 {K V : Type} [BEq K] {kd : TypeDesc} {kv : K → Value} (h : ∀ a b : K, Instr.sameNow kd (kv a) (kv b) = some (a == b)) (k : K) : ∀ (m : List (K × V)) (es : List MapEntry) (i : Nat), es.length = m.length → (∀ (j : Nat) (p : K × V), m[j]? = some p → ∃ e : MapEntry, es[j]? = some e ∧ e.key = kv p.1) →
  (JQ k m = none ∧ Instr.findNow kd (kv k) es i = some none) ∨ ∃ j p e, m[j]? = some p ∧ es[j]? = some e ∧ (k == p.1) = true ∧ JQ k m = some p.2 ∧ Instr.findNow kd (kv k) es i = some (some (i + j, e.val)) ∧ (∀ v, Nu k v m = m.set j (k, v))
 | [], [], i, _, _ => .inl ⟨rfl, rfl⟩
 | p :: m, e :: es, i, hl, hp => by
  obtain ⟨e0, h0, h1⟩ := hp 0 p rfl
  simp at h0; subst h0
  have h2 := h k p.1
  by_cases hk : (k == p.1) = true
  ·refine .inr ⟨0, p, e, rfl, rfl, hk, ?_, ?_, fun v => ?_⟩
   ·simp only [JQ, hk, if_true]
   ·simp only [Instr.findNow, h1, h2, hk]; rfl
   ·simp only [Nu, hk, if_true]; rfl
  ·have hk' : (k == p.1) = false := by simpa using hk
   rcases K8 h k m es (i + 1) (by simpa using hl) (fun j q hq => hp (j + 1) q (by simpa using hq)) with ⟨g1, g2⟩ | ⟨j, q, e', g1, g2, g3, g4, g5, g6⟩
   ·refine .inl ⟨?_, ?_⟩
    ·simp only [JQ, hk']; exact g1
    ·simp only [Instr.findNow, h1, h2, hk']; exact g2
   ·refine .inr ⟨j + 1, q, e', by simpa using g1, by simpa using g2, g3, ?_, ?_, fun v => ?_⟩
    ·simp only [JQ, hk']; exact g4
    ·simp only [Instr.findNow, h1, h2, hk']; rw [g5]; simp [zF3, Nat.add_comm 1]
    ·simp only [Nu, hk']; rw [g6 v]; rfl
theorem Lj {K V : Type} [BEq K] (k : K) (v : V) : ∀ {m : List (K × V)}, JQ k m = none → Nu k v m = m ++ [(k, v)]
 | [], _ => rfl
 | p :: m, h => by
  simp only [JQ] at h
  split at h
  ·cases h
  ·rename_i hk
   simp only [Nu]; rw [if_neg hk, Lj k v h]; rfl
section run
variable {dr : Bool} {Q : St → Prop} {r i : Nat} {st : St} {log : List (Nat × CM)} {o : Oper} {gs : List (Operand × D)}
theorem UP {t s : Nat} (hat : At st.env ops i X.n (.makeMap t none) s gs) (hnew : st.bx s = none)
  (next : A8 P X ops dr Q r (i + 1) (CM.upd ⟨gs, [], some s, some (.e (.one (.mref s))), [(s, .mp [])], [s]⟩ st) ((i, ⟨gs, [], some s, some (.e (.one (.mref s))), [(s, .mp [])], [s]⟩) :: log)) : A8 P X ops dr Q (r + 1) i st log := by
 obtain ⟨o, ho, hop, hd, hn, hg, hgp⟩ := hat.out
 refine A8.step next ⟨hgp, trivial, hnew, trivial⟩ (LR.value (rs := []) ho hg (by simp) hd.symm (Dx hd hn) ?_)
 intro G st a w hs hpre
 have hnew := hpre.n.1
 have key := hs.newB (.map #[] 0) s (.mp []) undef (hs.nl hn) hnew
  ⟨w.heap.size, #[], 0, by simp [Gh.set], by rw [DG, if_pos rfl], rfl, fun i x h => by simp at h⟩ (fun c hc => by cases hc)
 refine ⟨.map (some w.heap.size), _, _, ?_, key, ?_⟩
 ·simp only [execOp, hop]
  exact Aj (a := .map (some w.heap.size)) (w1 := w.alloc (.map #[] 0)) rfl rfl
 ·rintro d ⟨⟩
  refine ⟨⟨w.heap.size, by simp [Gh.set], rfl⟩, fun b hb => ?_⟩
  simp [D.names, E.names, C.names] at hb
  subst hb; simp [Bj]
theorem C5.mpAt {G : Gh} {a : Act} {w : World} (hs : C5 P X G st a w) {x : Operand} {b : Nat} {es : List (Value × T)} (hx : Lift.opd st.env x = some (.e (.one (.mref b)))) (hb : st.bx b = some (.mp es)) :
  ∃ β arr clock, a.eval x = .map (some β) ∧ G.loc b = some β ∧ w.heap[β]? = some (.map arr clock) ∧ arr.size = es.length ∧ ∀ (i : Nat) (y : Value × T), es[i]? = some y → ∃ m : MapEntry, arr[i]? = some m ∧ m.key = y.1 ∧ Ea w G.S m.val y.2 := by
 obtain ⟨β, hβ, hv⟩ : Fg P w G (a.eval x) (.mref b) := hs.opd hx
 obtain ⟨β', arr, clock, h1, h2, h3, h4⟩ := hs.blk b _ hb
 rw [hβ] at h1; cases h1
 exact ⟨β, arr, clock, hv, hβ, h2, h3, h4⟩
theorem Kh {β : Nat} {arr : Array MapEntry} {clock : Nat} {w : World} (h : w.heap[β]? = some (.map arr clock)) : (getObj β).run P w = .ok (.map arr clock) w := by
 simp [getObj, Sem.run, h]
theorem OQ {β : Nat} {arr : Array MapEntry} {clock : Nat} {o : Obj} {w : World} (h : w.heap[β]? = some (.map arr clock)) : (setObj β o).run P w = .ok () (GO w β o) := by
 simp [setObj, Sem.run, h, GO]
theorem Jo {K _V : Type} [BEq K] {kt : TypeId} {kd : TypeDesc} {kv : K → Value} {k : K} {es : List MapEntry} {r : Option (Nat × Value)} {w : World} (hu : P.underlying kt = some kd) (h : Instr.findNow kd (kv k) es 0 = some r) : (Instr.findKey kt (kv k) es).run P w = .ok r w := by
 unfold Instr.findKey
 refine Aj (AO hu w) ?_
 rw [h]; rfl
inductive UI (w : World) : Value → Array MapEntry → Prop where
 | nil : UI w (.map none) #[]
 | here (β clock : Nat) (arr : Array MapEntry) (h : w.heap[β]? = some (.map arr clock)) : UI w (.map (some β)) arr
theorem Th {K V : Type} [BEq K] {t el : Nat} {c : Bool} {z x : Value} {kv : K → Value} {vt : V → T} {m : List (K × V)} {k : K} {dv v0 : V} {w : World} {S : Nat → Prop} {arr : Array MapEntry} (h3 : UI w x arr) (h4 : arr.size = (I9 kv vt m).length)
  (h5 : ∀ (i : Nat) (y : Value × T), (I9 kv vt m)[i]? = some y → ∃ e : MapEntry, arr[i]? = some e ∧ e.key = y.1 ∧ Ea w S e.val y.2)
  (hk : RY P t kv) (hel : (match P.underlying t with | some (.map _ e) => e == el | _ => false) = true) (hz : EE P el = some z) (hzv : vt dv = .val z) (hz1 : G8 z = true) (hv0 : (JQ k m).getD dv = v0) :
  ∃ v, (Instr.lookup t x (kv k) c).run P w = .ok (if c then .tuple #[v, .bool (JQ k m).isSome] else v) w ∧ Ea w S v (vt v0) := by
 obtain ⟨kt, el', kd, u1, u2, u3, u4⟩ := hk.ty
 rw [u1] at hel
 have hel' : el' = el := by simpa using hel
 subst hel'
 have hes : ∀ (j : Nat) (p : K × V), m[j]? = some p → ∃ e : MapEntry, arr.toList[j]? = some e ∧ e.key = kv p.1 ∧ Ea w S e.val (vt p.2) := fun j p hp => by
  obtain ⟨e, e1, e2, e3⟩ := h5 j (kv p.1, vt p.2) (by unfold I9; rw [zA6, hp]; rfl)
  exact ⟨e, by simpa using e1, e2, e3⟩
 rcases K8 (V := V) u3 k m arr.toList 0 (by simp [h4, I9]) (fun j p hp => by obtain ⟨e, e1, e2, _⟩ := hes j p hp; exact ⟨e, e1, e2⟩) with ⟨g1, g2⟩ | ⟨j, q, e, g1, g2, g3, g4, g5, _⟩
 ·refine ⟨z, ?_, ?_⟩
  ·rw [g1]
   unfold Instr.lookup
   refine Aj (AO u1 w) ?_
   cases h3
   case' here h3 => refine Aj (Kh h3) ?_
   all_goals refine Aj (a := _) (w1 := w) rfl ?_
   all_goals refine Aj (u4 _ _ _ _) ?_
   all_goals refine Aj (Jo (_V := V) u2 g2) ?_
   all_goals refine Aj (FH hz w) ?_
   all_goals exact Aj (a := (z, false)) (w1 := w) rfl rfl
  ·rw [← hv0, g1, Option.getD_none, hzv]; exact .val _ hz1
 ·refine ⟨e.val, ?_, ?_⟩
  ·rw [g4]
   unfold Instr.lookup
   refine Aj (AO u1 w) ?_
   cases h3 with
   | nil => cases g2
   | here β clock _ h3 =>
    refine Aj (Kh h3) ?_
    refine Aj (a := arr) (w1 := w) rfl ?_
    refine Aj (u4 _ _ _ _) ?_
    refine Aj (Jo (_V := V) u2 g5) ?_
    exact Aj (a := (e.val, true)) (w1 := w) rfl rfl
  ·obtain ⟨e', e1, _, e3⟩ := hes j q g1
   rw [g2] at e1; cases e1
   rw [← hv0, g4]; exact e3
inductive bO : D → List (Value × T) → List (Nat × BH) → Prop where
 | ref (b : Nat) (es : List (Value × T)) : bO (.e (.one (.mref b))) es [(b, .mp es)]
 | tree (es : List (Value × T)) : bO (one (.mp es)) es []
theorem C5.mpAtD {G : Gh} {a : Act} {w : World} (hs : C5 P X G st a w) {x : Operand} {d : D} {es : List (Value × T)} {bs : List (Nat × BH)} (hm : bO d es bs) (hx : Lift.opd st.env x = some d) (hb : Hz st.bx bs) :
  ∃ arr, UI w (a.eval x) arr ∧ arr.size = es.length ∧ ∀ (i : Nat) (y : Value × T), es[i]? = some y → ∃ m : MapEntry, arr[i]? = some m ∧ m.key = y.1 ∧ Ea w G.S m.val y.2 := by
 cases hm with
 | ref b =>
  obtain ⟨β, arr, clock, h1, h2, h3, h4, h5⟩ := hs.mpAt hx hb.1
  exact ⟨arr, by rw [h1]; exact .here β clock arr h3, h4, h5⟩
 | tree =>
  have h : Ea w G.S (a.eval x) (.mp es) := hs.opd hx
  generalize a.eval x = v at h
  cases h with
  | mp β clock arr _ h1 h2 h3 h4 h5 =>
   refine ⟨arr, .here β clock arr h2, h3, fun i y hy => ?_⟩
   have hlt : i < arr.size := by rw [h3]; exact AC hy
   exact ⟨arr[i], by simp [hlt], h4 i y _ hy (by simp [hlt]), h5 i y _ hy (by simp [hlt])⟩
  | mp0 => exact ⟨#[], .nil, rfl, fun i y hy => by simp at hy⟩
theorem UQ {K V : Type} [BEq K] {t s el : Nat} {x y : Operand} {c : Bool} {z : Value} {kv : K → Value} {vt : V → T} {m : List (K × V)} {k : K} {dv v0 : V} {dx : D} {bs : List (Nat × BH)} (hmd : bO dx (I9 kv vt m) bs) (hat : At st.env ops i X.n (.lookup t x y c) s gs)
  (hx : opd st.env x = some dx) (hy : opd st.env y = some (vD (kv k))) (hb : Hz st.bx bs) (hk : RY P t kv) (hel : (match P.underlying t with | some (.map _ e) => e == el | _ => false) = true) (hz : EE P el = some z) (hzv : vt dv = .val z) (hz1 : G8 z = true) (hv0 : (JQ k m).getD dv = v0)
  (next : A8 P X ops dr Q r (i + 1) (CM.upd ⟨gs ++ [(x, dx), (y, vD (kv k))], bs, some s, some (if c then .tup [.one (.pure (vt v0)), .one (.pure (.val (.bool (JQ k m).isSome)))] else one (vt v0)), [], []⟩ st) ((i, ⟨gs ++ [(x, dx), (y, vD (kv k))], bs, some s, some (if c then .tup [.one (.pure (vt v0)), .one (.pure (.val (.bool (JQ k m).isSome)))] else one (vt v0)), [], []⟩) :: log)) : A8 P X ops dr Q (r + 1) i st log := by
 obtain ⟨o, ho, hop, hd, hn, hg, hgp⟩ := hat.out
 refine A8.step next ⟨Ak.2 ⟨hgp, hx, hy, trivial⟩, hb, trivial⟩ (LR.value ho hg rfl hd.symm (Dx hd hn) ?_)
 intro G st a w hs hpre
 obtain ⟨hx, hy, _⟩ := (Ak.1 hpre.r).2
 obtain ⟨arr, h3, h4, h5⟩ := hs.mpAtD hmd hx hpre.b
 have hY : a.eval y = kv k := E7 (hs.opd hy : Ea w G.S (a.eval y) (.val _))
 obtain ⟨v, hv1, hv2⟩ := Th (c := c) h3 h4 h5 hk hel hz hzv hz1 hv0
 refine ⟨(if c then .tuple #[v, .bool (JQ k m).isSome] else v), w, G, ?_, hs, ?_⟩
 ·simp only [execOp, hop, hY]
  exact Aj hv1 rfl
 ·rintro d hd'
  cases c with
  | false => cases hd'; exact ⟨hv2, fun b hb => by cases hb⟩
  | true =>
   cases hd'
   refine ⟨⟨_, rfl, rfl, fun j x hj => ?_⟩, fun b hb => by simp [D.names, JK, E.names, C.names] at hb⟩
   match j, hj with
   | 0, hj => cases hj; exact hv2
   | 1, hj => cases hj; exact .val _ rfl
theorem Wi {K V : Type} [BEq K] {t s b el : Nat} {x y : Operand} {c : Bool} {z : Value} {kv : K → Value} {vt : V → T} {m : List (K × V)} {k : K} {dv v0 : V} (hat : At st.env ops i X.n (.lookup t x y c) s gs)
  (hx : opd st.env x = some (.e (.one (.mref b)))) (hy : opd st.env y = some (vD (kv k))) (hb : st.bx b = some (.mp (I9 kv vt m))) (hk : RY P t kv) (hel : (match P.underlying t with | some (.map _ e) => e == el | _ => false) = true) (hz : EE P el = some z) (hzv : vt dv = .val z) (hz1 : G8 z = true) (hv0 : (JQ k m).getD dv = v0)
  (next : A8 P X ops dr Q r (i + 1) (CM.upd ⟨gs ++ [(x, .e (.one (.mref b))), (y, vD (kv k))], [(b, .mp (I9 kv vt m))], some s, some (if c then .tup [.one (.pure (vt v0)), .one (.pure (.val (.bool (JQ k m).isSome)))] else one (vt v0)), [], []⟩ st) ((i, ⟨gs ++ [(x, .e (.one (.mref b))), (y, vD (kv k))], [(b, .mp (I9 kv vt m))], some s, some (if c then .tup [.one (.pure (vt v0)), .one (.pure (.val (.bool (JQ k m).isSome)))] else one (vt v0)), [], []⟩) :: log)) : A8 P X ops dr Q (r + 1) i st log :=
 UQ (.ref b _) hat hx hy ⟨hb, trivial⟩ hk hel hz hzv hz1 hv0 next
theorem RT {K V : Type} [BEq K] {t b : Nat} {x y u : Operand} {kv : K → Value} {vt : V → T} {m m' : List (K × V)} {k : K} {v : V} {op : Op} (hat : S3 ops i = some op) (hop' : op = .mapUpdate t x y u ∨ op = .insert t x y u)
  (hx : opd st.env x = some (.e (.one (.mref b)))) (hy : opd st.env y = some (vD (kv k))) (hu : opd st.env u = some (one (vt v))) (hb : st.bx b = some (.mp (I9 kv vt m))) (hk : RY P t kv) (hm : Nu k v m = m')
  (next : A8 P X ops dr Q r (i + 1) (CM.upd ⟨[(x, .e (.one (.mref b))), (y, vD (kv k)), (u, one (vt v))], [(b, .mp (I9 kv vt m))], none, none, [(b, .mp (I9 kv vt m'))], []⟩ st) ((i, ⟨[(x, .e (.one (.mref b))), (y, vD (kv k)), (u, one (vt v))], [(b, .mp (I9 kv vt m))], none, none, [(b, .mp (I9 kv vt m'))], []⟩) :: log)) : A8 P X ops dr Q (r + 1) i st log := by
 obtain ⟨o, ho, hop, hd, hgn⟩ := Oh hat
 have hg : Wb ops o [] := .none hgn
 refine A8.step next ⟨⟨hx, hy, hu, trivial⟩, ⟨hb, trivial⟩, trivial⟩ (LR.skip (rs := [(x, .e (.one (.mref b))), (y, vD (kv k)), (u, one (vt v))]) ho hg rfl hd rfl ?_)
 intro G st a w hs hpre
 obtain ⟨hx, hy, hu, _⟩ := hpre.r
 have hb := hpre.b.1
 subst hm
 obtain ⟨β, arr, clock, h1, h2, h3, h4, h5⟩ := hs.mpAt hx hb
 have hY : a.eval y = kv k := E7 (hs.opd hy : Ea w G.S (a.eval y) (.val _))
 have hU : Ea w G.S (a.eval u) (vt v) := hs.opd hu
 obtain ⟨kt, el', kd, u1, u2, u3, u4⟩ := hk.ty
 have hes : ∀ (j : Nat) (p : K × V), m[j]? = some p → ∃ e : MapEntry, arr.toList[j]? = some e ∧ e.key = kv p.1 ∧ Ea w G.S e.val (vt p.2) := fun j p hp => by
  obtain ⟨e, e1, e2, e3⟩ := h5 j (kv p.1, vt p.2) (by unfold I9; rw [zA6, hp]; rfl)
  exact ⟨e, by simpa using e1, e2, e3⟩
 have hat := hs.at_ok b _ β hb rfl (.inl h2)
 have hml : arr.size = m.length := by rw [h4]; simp [I9]
 have fin : ∀ arr' clock', arr'.size = (Nu k v m).length → (∀ (j : Nat) (p : K × V), (Nu k v m)[j]? = some p → ∃ e : MapEntry, arr'[j]? = some e ∧ e.key = kv p.1 ∧ Ea w G.S e.val (vt p.2)) →
   C5 P X G ⟨st.env, Bj st.bx [(b, .mp (I9 kv vt (Nu k v m)))]⟩ a (GO w β (.map arr' clock')) := by
  intro arr' clock' k1 k2
  have hS : ∀ γ, G.S γ → (GO w β (.map arr' clock')).heap[γ]? = w.heap[γ]? := fun γ hγ => by
   rw [EC, if_neg (fun (h : γ = β ∧ β < w.heap.size) => hat.2.2 (h.1 ▸ hγ))]
  refine hs.setB (b := b) (k0 := .mp (I9 kv vt m)) hb rfl rfl (.inl h2) ⟨β, arr', clock', h2, by rw [EC, if_pos ⟨rfl, hat.2.1⟩], by rw [k1]; simp [I9], fun j y hy => ?_⟩ (fun c hc => by cases hc)
  unfold I9 at hy
  rw [zA6] at hy
  cases hp : (Nu k v m)[j]? with
  | none => rw [hp] at hy; cases hy
  | some p =>
   rw [hp] at hy; cases hy
   obtain ⟨e, e1, e2, e3⟩ := k2 j p hp
   exact ⟨e, e1, e2, e3.mono hS fun _ h => h⟩
 have hrun : ∀ w', (Instr.mapUpdate t (.map (some β)) (kv k) (a.eval u)).run P w = .ok () w' → (execOp a.eval o).run P w = .ok .skip w' := fun w' h => by
  rcases hop' with e | e
  ·simp only [execOp, hop, e, h1, hY]; exact Aj h rfl
  ·simp only [execOp, hop, e, h1, hY]; exact Aj h rfl
 rcases K8 (V := V) u3 k m arr.toList 0 (by simp [hml]) (fun j p hp => by obtain ⟨e, e1, e2, _⟩ := hes j p hp; exact ⟨e, e1, e2⟩) with ⟨g1, g2⟩ | ⟨j, q, e, g1, g2, g3, g4, g5, g6⟩
 ·refine ⟨_, G, hrun _ ?_, fin (arr.push { key := kv k, val := a.eval u, born := clock }) (clock + 1) ?_ ?_⟩
  ·unfold Instr.mapUpdate
   refine Aj (AO u1 w) ?_
   refine Aj (Kh h3) ?_
   refine Aj (u4 _ _ _ _) ?_
   refine Aj (Jo (_V := V) u2 g2) ?_
   exact OQ h3
  ·rw [Lj k v g1]; simp [hml]
  ·intro j p hp
   rw [Lj k v g1] at hp
   by_cases hj : j < m.length
   ·rw [zC4 hj] at hp
    obtain ⟨e, e1, e2, e3⟩ := hes j p hp
    refine ⟨e, ?_, e2, e3⟩
    rw [Array.getElem?_push, if_neg (by omega)]
    simpa using e1
   ·rw [zD0 (by omega)] at hp
    have hj0 : j - m.length = 0 := by have := AC hp; simp at this; omega
    rw [hj0] at hp; cases hp
    exact ⟨{ key := kv k, val := a.eval u, born := clock }, by rw [Array.getElem?_push, if_pos (by omega)], rfl, hU⟩
 ·have hjm := AC g1
  have hje : arr[j]? = some e := by simpa using g2
  have hek : e.key = kv q.1 := by obtain ⟨e', e1, e2, _⟩ := hes j q g1; rw [g2] at e1; cases e1; exact e2
  refine ⟨_, G, hrun _ ?_, fin (arr.modify j fun e => { e with key := kv k, val := a.eval u }) clock ?_ ?_⟩
  ·unfold Instr.mapUpdate
   refine Aj (AO u1 w) ?_
   refine Aj (Kh h3) ?_
   refine Aj (u4 _ _ _ _) ?_
   refine Aj (Jo (_V := V) u2 g5) ?_
   simp only [zA1]
   refine Aj (a := kv k) (w1 := w) ?_ (OQ h3)
   rw [hje]
   simp only [zE8, zC9]
   unfold Instr.keyThatStays
   rw [hek, hk.same k q.1 g3]; rfl
  ·rw [g6 v]; simp [hml]
  ·intro j' p hp
   rw [g6 v] at hp
   rw [Array.getElem?_modify]
   rcases Id hp with ⟨rfl, rfl⟩ | ⟨hne, hp⟩
   ·rw [if_pos rfl, hje]
    exact ⟨_, rfl, rfl, hU⟩
   ·rw [if_neg (fun h => hne h.symm)]
    obtain ⟨e', e1, e2, e3⟩ := hes j' p hp
    exact ⟨e', by simpa using e1, e2, e3⟩
end run
end Go.Lift
namespace Go.Lift
open List renaming mem_of_getElem? → lM
open List renaming getD_eq_getElem?_getD → lD
open Go.RowKit
variable {P : Program} {X : Im} {ops : Array Oper}
section run
variable {dr : Bool} {Q : St → Prop} {r i : Nat} {st : St} {log : List (Nat × CM)} {o : Oper} {gs : List (Operand × D)}
def vl : BH → Option (Nat × Nat)
 | .vec e rows => some (e, rows.length)
 | .dvec e _ rows => some (e, rows.length)
 | .pvec _ e _ rows => some (e, rows.length)
 | .hol e _ _ _ _ rows => some (e, rows.length)
 | _ => none
theorem Yu {G : Gh} {w : World} {b e n : Nat} {k : BH} (h : Eu P w G b k) (hk : vl k = some (e, n)) : ∃ a cap, G.hd b = .slice a n cap ∧ (0 < n → ∃ β, a = some ⟨β, 0, none⟩ ∧ G.loc b = some β) := by
 cases k with
 | vec e' rows =>
  cases hk
  rcases h with ⟨a, h1, h2, _⟩ | ⟨β, cap, arr, el, h0, h1, _⟩
  ·subst h2; exact ⟨a, 0, h1, fun h => by cases h⟩
  ·exact ⟨_, cap, h1, fun _ => ⟨β, rfl, h0⟩⟩
 | dvec e' cols rows =>
  cases hk
  rcases h with ⟨a, h1, h2, _⟩ | ⟨β, cap, arr, el, Rf, h0, h1, _⟩
  ·subst h2; exact ⟨a, 0, h1, fun h => by cases h⟩
  ·exact ⟨_, cap, h1, fun _ => ⟨β, rfl, h0⟩⟩
 | pvec n_ e' cols rows =>
  obtain ⟨_, h⟩ := h
  cases hk
  rcases h with ⟨a, h1, h2, _⟩ | ⟨β, cap, arr, el, Rf, h0, h1, _⟩
  ·subst h2; exact ⟨a, 0, h1, fun h => by cases h⟩
  ·exact ⟨_, cap, h1, fun _ => ⟨β, rfl, h0⟩⟩
 | hol e' cols i0 k0 c rows =>
  cases hk
  obtain ⟨β, cap, arr, el, Rf, h0, h1, _⟩ := h
  exact ⟨_, cap, h1, fun _ => ⟨β, rfl, h0⟩⟩
 | _ => cases hk
theorem K1 {x y : Operand} {s e b m : Nat} {kb : BH} {t el : TypeId} {k : IntKind} {n : Int} (hat : At st.env ops i X.n (.indexAddr t x y) s gs)
  (hx : opd st.env x = some (.e (.one (.own b)))) (hy : opd st.env y = some (vD (.int k n))) (hb : st.bx b = some kb) (hk : vl kb = some (e, m)) (ht : sliceB P t el = true) (hz : HK P el e = true) (h0 : 0 ≤ n) (hlt : n.toNat < m)
  (next : A8 P X ops dr Q r (i + 1) (CM.upd ⟨gs ++ [(x, .e (.one (.own b))), (y, vD (.int k n))], [(b, kb)], some s, some (.e (.one (.eptr b e n.toNat 0))), [], []⟩ st) ((i, ⟨gs ++ [(x, .e (.one (.own b))), (y, vD (.int k n))], [(b, kb)], some s, some (.e (.one (.eptr b e n.toNat 0))), [], []⟩) :: log)) : A8 P X ops dr Q (r + 1) i st log := by
 obtain ⟨o, ho, hop, hd, hn, hg, hgp⟩ := hat.out
 refine A8.step next ⟨Ak.2 ⟨hgp, hx, hy, trivial⟩, ⟨hb, trivial⟩, trivial⟩ (LR.value ho hg rfl hd.symm (Dx hd hn) ?_)
 intro G st a w hs hpre
 obtain ⟨hx, hy, _⟩ := (Ak.1 hpre.r).2
 have hb := hpre.b.1
 obtain ⟨hR, _⟩ : Fg P w G (a.eval x) (.own b) := hs.opd hx
 have hY : a.eval y = .int k n := E7 (hs.opd hy : Ea w G.S (a.eval y) (.val _))
 obtain ⟨a0, cap, h1, h2⟩ := Yu (hs.blk b _ hb) hk
 obtain ⟨β, g1, g2⟩ := h2 (by omega)
 subst g1
 refine ⟨_, w, G, by simp only [execOp, hop, hR, h1, hY]; exact Aj (JB ht hz h0 hlt) rfl, hs, ?_⟩
 rintro d ⟨⟩
 exact ⟨⟨β, g2, by simp⟩, fun b' hb' => hs.opd_live hx b' (by simpa [D.names, E.names, C.names] using hb')⟩
theorem Vt {x : Operand} {s t el b e m : Nat} {kb : BH} (hat : At st.env ops i X.n (.call ⟨.builtin .len, #[x], #[t]⟩) s gs)
  (hx : opd st.env x = some (.e (.one (.own b)))) (hb : st.bx b = some kb) (hk : vl kb = some (e, m)) (ht : sliceB P t el = true)
  (next : A8 P X ops dr Q r (i + 1) (CM.upd ⟨gs ++ [(x, .e (.one (.own b)))], [(b, kb)], some s, some (vD (goInt m)), [], []⟩ st) ((i, ⟨gs ++ [(x, .e (.one (.own b)))], [(b, kb)], some s, some (vD (goInt m)), [], []⟩) :: log)) : A8 P X ops dr Q (r + 1) i st log := by
 obtain ⟨o, ho, hop, hd, hn, hg, hgp⟩ := hat.out
 refine A8.step next ⟨Ak.2 ⟨hgp, hx, trivial⟩, ⟨hb, trivial⟩, trivial⟩ (LR.value ho hg rfl hd.symm (Dx hd hn) ?_)
 intro G st a w hs hpre
 obtain ⟨hx, _⟩ := (Ak.1 hpre.r).2
 have hb := hpre.b.1
 obtain ⟨hR, _⟩ : Fg P w G (a.eval x) (.own b) := hs.opd hx
 obtain ⟨a0, cap, h1, h2⟩ := Yu (hs.blk b _ hb) hk
 refine ⟨goInt m, w, G, ?_, hs, ?_⟩
 ·simp only [execOp, hop]
  refine FE fun cs => ?_
  simp only [zF4, zC3, zG7, builtin, hR, h1]
  exact Aj (Kt ht) rfl
 ·rintro d ⟨⟩
  exact ⟨.val _ rfl, fun b hb => by cases hb⟩
def V3 : Ow → Bool
 | .s => true
 | _ => false
theorem WO {o : Ow} (h : V3 o = true) : o = .s := by cases o with
 | s => rfl
 | x e cols => cases h
theorem XI {G : Gh} {w : World} {b e ix : Nat} {cols : List Ow} {rows : List (List T)} {row : List T} (h : Eu P w G b (.dvec e cols rows)) (hrow : rows[ix]? = some row) :
  ∃ β cap arr el, ∃ Rf : Nat → Nat → Nat → Prop, G.loc b = some β ∧ G.hd b = .slice (some ⟨β, 0, none⟩) rows.length cap ∧ w.heap[β]? = some (.cells arr el (0, 0)) ∧ rows.length ≤ cap ∧ arr.size = cap * e ∧
    (∀ (i : Nat) (row : List T), rows[i]? = some row → row.length = e) ∧ (∀ (i : Nat) (row : List T) (j : Nat) (t : T), rows[i]? = some row → row[j]? = some t → Ru w G.S (cols.getD j .s) (Rf i j) (Aw arr (i * e + j)) t) ∧
    (∀ i j γ, Rf i j γ → G.more b γ) ∧ (∀ i j, ¬ Rf i j β) ∧ (∀ i j i' j' γ, Rf i j γ → Rf i' j' γ → i = i' ∧ j = j') ∧ ix * e + e ≤ arr.size := by
 rcases h with ⟨_, _, h0, _⟩ | ⟨β, cap, arr, el, Rf, h0, h1, h2, h3, h4, h5, h6, h7, h8, h9⟩
 ·subst h0; simp at hrow
 ·refine ⟨β, cap, arr, el, Rf, h0, h1, h2, h3, h4, h5, h6, h7, h8, h9, ?_⟩
  have := AC hrow
  rw [h4, ← zC7]; exact zA3 e (zG4 this h3)
end run
theorem Fg.moreI {w : World} {G : Gh} {m : Nat → Nat → Prop} {v : Value} {c : C} (h : Fg P w G v c) : Fg P w { G with more := m } v c := by
 cases c with
 | cls f caps =>
  obtain ⟨vs, h1, h2, h3⟩ := h
  refine ⟨vs, h1, h2, fun j c hj => ?_⟩
  have := h3 j c hj
  cases c <;> exact this
 | _ => exact h
theorem Jw.moreI {w : World} {G : Gh} {m : Nat → Nat → Prop} {v : Value} {x : E} (h : Jw P w G v x) : Jw P w { G with more := m } v x := by
 cases x with
 | one c => exact Fg.moreI h
 | agg cs => obtain ⟨vs, e, hs, h⟩ := h; exact ⟨vs, e, hs, fun j c hj => (h j c hj).moreI⟩
theorem Hj.moreI {w : World} {G : Gh} {m : Nat → Nat → Prop} {v : Value} {d : D} (h : Hj P w G v d) : Hj P w { G with more := m } v d := by
 cases d with
 | e x => exact Jw.moreI h
 | tup xs => obtain ⟨vs, e, hs, h⟩ := h; exact ⟨vs, e, hs, fun j c hj => (h j c hj).moreI⟩
theorem Eu.moreI {w : World} {G : Gh} {m : Nat → Nat → Prop} {b : Nat} {k : BH} (h : Eu P w G b k) (hm : m b = G.more b) : Eu P w { G with more := m } b k := by
 cases k with
 | box cells => obtain ⟨β, arr, el, h1, h2, h3, h4⟩ := h; exact ⟨β, arr, el, h1, h2, h3, fun j c hj => (h4 j c hj).moreI⟩
 | vec e rows => exact h
 | mp es => exact h
 | dvec e cols rows =>
  rcases h with h | ⟨β, cap, arr, el, Rf, h0, h1, h2, h3, h4, h5, h6, h7, h8⟩
  ·exact .inl h
  ·exact .inr ⟨β, cap, arr, el, Rf, h0, h1, h2, h3, h4, h5, h6, fun i j γ hγ => by show m b γ; rw [hm]; exact h7 i j γ hγ, h8⟩
 | pvec n e cols rows =>
  obtain ⟨hn, h⟩ := h
  refine ⟨hn, ?_⟩
  rcases h with h | ⟨β, cap, arr, el, Rf, h0, h1, h2, h3, h4, h5, h6, h7, h8⟩
  ·exact .inl h
  ·exact .inr ⟨β, cap, arr, el, Rf, h0, h1, h2, h3, h4, h5, h6, fun i j γ hγ => by show m b γ; rw [hm]; exact h7 i j γ hγ, h8⟩
 | hol e cols i0 k0 c rows =>
  obtain ⟨β, cap, arr, el, Rf, h0, h1, h2, h3, h4, h5, h6, h7, h8⟩ := h
  exact ⟨β, cap, arr, el, Rf, h0, h1, h2, h3, h4, h5, h6, fun i j γ hγ => by show m b γ; rw [hm]; exact h7 i j γ hγ, h8⟩
 | gone => trivial
theorem C5.frame2 {G G' : Gh} {st : St} {bx' : Nat → Option BH} {a : Act} {w w' : World} (h : C5 P X G st a w)
  (hlive : ∀ b, (st.bx b).isSome = true → (bx' b).isSome = true)
  (hS : ∀ β, G.S β → G'.S β) (hloc : ∀ b, (st.bx b).isSome = true → G'.loc b = G.loc b) (hhd : ∀ b, (st.bx b).isSome = true → G'.hd b = G.hd b)
  (hw : ∀ β, G.S β → w'.heap[β]? = w.heap[β]?)
  (hb : ∀ b k, bx' b = some k → (st.bx b = some k ∧ G'.more b = G.more b ∧ ∀ β, k.real = true → G.has b β → w'.heap[β]? = w.heap[β]?) ∨ (Eu P w' G' b k ∧ ∀ c, c ∈ k.names → (bx' c).isSome = true))
  (hat : ∀ b k β, bx' b = some k → k.real = true → G'.has b β → OE X b β ∧ β < w'.heap.size ∧ ¬ G'.S β)
  (hinj : ∀ b c k l β, bx' b = some k → bx' c = some l → k.real = true → l.real = true → G'.has b β → G'.has c β → b = c)
  (hS1 : ∀ β, G'.S β → β < w'.heap.size) (hS2 : ∀ β, G'.S β → X.S0 β ∨ X.w0.heap.size ≤ β)
  (hbel : DB X.L X.w0.heap.size X.w0 w') (hL : ∀ b, Bt b = true → G'.loc b = G.loc b ∧ G'.hd b = G.hd b ∧ G'.more b = G.more b) : C5 P X G' { st with bx := bx' } a w' := by
 let G2 : Gh := { G' with more := G.more }
 have hext : G.ext G2 (fun b => (st.bx b).isSome = true) := ⟨hS, hloc, hhd, fun _ _ => rfl⟩
 have e0 : ({ G2 with more := G'.more } : Gh) = G' := rfl
 exact {
  S_lt := hS1
  S_src := hS2
  S_0 := fun β hβ => hS β (h.S_0 β hβ)
  S0_lt := h.S0_lt
  blk := fun b k hk => by
   rcases hb b k hk with ⟨h1, h2, h3⟩ | ⟨h1, _⟩
   ·have := (h.blk b k h1).mono hext (by simp [h1]) hw h3 fun c hc => h.liveB b k h1 c hc
    have := this.moreI (m := G'.more) h2
    rwa [e0] at this
   ·exact h1
  at_ok := hat
  at_inj := hinj
  env := fun s d hs => by
   have := ((h.env s d hs).mono hext hw (h.live s d hs)).moreI (m := G'.more)
   rwa [e0] at this
  live := fun s d hs b hb' => hlive b (h.live s d hs b hb')
  liveB := fun b k hk c hc => by
   rcases hb b k hk with ⟨h1, _⟩ | ⟨_, h2⟩
   ·exact hlive c (h.liveB b k h1 c hc)
   ·exact h2 c hc
  tsz := h.tsz
  nlt := h.nlt
  lent := fun b hb => by
   obtain ⟨h1, h2, h3⟩ := hL b (LS hb)
   rw [h1, h2, h3]; exact h.lent b hb
  defers := h.defers
  below := hbel
  gok := h.gok.mono hw hS }
def inner (e : Nat) (cols : List Ow) (rows : List (List T)) : BH := if cols.all V3 then .vec e rows else .dvec e cols rows
theorem Sv {cols : List Ow} (h : cols.all V3 = true) (j : Nat) : cols.getD j .s = .s := by
 rw [lD]
 cases hc : cols[j]? with
 | none => rfl
 | some o => exact WO (zA5.1 h o (lM hc))
theorem FP {e : Nat} {cols : List Ow} {rows : List (List T)} : (inner e cols rows).real = true := by unfold inner; split <;> rfl
theorem R2 {e : Nat} {cols : List Ow} {rows : List (List T)} : (inner e cols rows).names = [] := by unfold inner; split <;> rfl
theorem W4 {G : Gh} {w : World} {e : Nat} {cols : List Ow} {R : Nat → Prop} {v : Value} {rows : List (List T)} (h : Ru w G.S (.x e cols) R v (.sl rows)) :
  ∃ (l : Option Nat) (m : Nat → Prop), (∀ β, l = some β ∨ m β → R β) ∧ (∃ p n q, v = .slice p n q) ∧ ∀ (G' : Gh) (b : Nat), (∀ β, G.S β → G'.S β) → G'.loc b = l → G'.hd b = v → (∀ β, m β → G'.more b β) → Eu P w G' b (inner e cols rows) := by
 cases h with
 | nil a =>
  refine ⟨none, fun _ => False, fun β h => (h.elim (fun h => by cases h) (fun h => h.elim)), ⟨_, _, _, rfl⟩, fun G' b hS h1 h2 h3 => ?_⟩
  unfold inner
  split
  ·exact .inl ⟨a, h2, rfl, h1⟩
  ·exact .inl ⟨a, h2, rfl, h1⟩
 | sl β cap _ _ arr el _ Rf k1 k2 k3 k4 k5 k6 k7 k8 k9 =>
  refine ⟨some β, fun γ => ∃ i j, Rf i j γ, fun γ h => ?_, ⟨_, _, _, rfl⟩, fun G' b hS h1 h2 h3 => ?_⟩
  ·rcases h with h | ⟨i, j, h⟩
   ·cases h; exact k6
   ·exact k7 i j γ h
  ·unfold inner
   split
   ·rename_i hall
    refine .inr ⟨β, cap, arr, el, h1, h2, k1, k2, k3, k4, fun i row j t hi hj => ?_⟩
    have := k5 i row j t hi hj
    rw [Sv hall] at this
    cases this with
    | s h => exact h.mono (fun _ _ => rfl) hS
   ·exact .inr ⟨β, cap, arr, el, Rf, h1, h2, k1, k2, k3, k4, fun i row j t hi hj => (k5 i row j t hi hj).mono (fun _ _ => rfl) hS (fun _ h => h), fun i j γ hγ => h3 γ ⟨i, j, hγ⟩, k8, k9⟩
theorem SX {G : Gh} {w : World} {b e : Nat} {cols : List Ow} {rows : List (List T)} (h : Eu P w G b (inner e cols rows)) : Ru w G.S (.x e cols) (G.has b) (G.hd b) (.sl rows) := by
 unfold inner at h
 split at h
 ·rename_i hall
  rcases h with ⟨a, h1, h2, _⟩ | ⟨β, cap, arr, el, h0, h1, h2, h3, h4, h5, h6⟩
  ·rw [h1, h2]; exact .nil a e cols
  ·rw [h1]
   exact .sl β cap e cols arr el rows (fun _ _ _ => False) h2 h3 h4 h5 (fun i row j t hi hj => by rw [Sv hall]; exact .s (h6 i row j t hi hj)) (.inl h0) (fun _ _ _ h => h.elim) (fun _ _ h => h) (fun _ _ _ _ _ h => h.elim)
 ·rcases h with ⟨a, h1, h2, _⟩ | ⟨β, cap, arr, el, Rf, h0, h1, h2, h3, h4, h5, h6, h7, h8, h9⟩
  ·rw [h1, h2]; exact .nil a e cols
  ·rw [h1]
   exact .sl β cap e cols arr el rows Rf h2 h3 h4 h5 h6 (.inl h0) (fun i j γ hγ => .inr (h7 i j γ hγ)) h8 h9
section run
variable {dr : Bool} {Q : St → Prop} {r i : Nat} {st : St} {log : List (Nat × CM)} {o : Oper} {gs : List (Operand × D)}
end run
def Mv (cols : List Ow) : Nat → List T → Option (List T)
 | _, [] => some []
 | j, t :: ts => match Mv cols (j + 1) ts with
  | none => none
  | some us => if V3 (cols.getD j .s) then some (t :: us) else match t with
   | .nil0 => some (.sl [] :: us)
   | _ => none
theorem K7 {cols : List Ow} : ∀ {ts us : List T} {j0 : Nat}, Mv cols j0 ts = some us → us.length = ts.length ∧ ∀ (j : Nat) (u : T), us[j]? = some u → ∃ t, ts[j]? = some t ∧ ((V3 (cols.getD (j0 + j) .s) = true ∧ u = t) ∨ (V3 (cols.getD (j0 + j) .s) = false ∧ t = .nil0 ∧ u = .sl []))
 | [], us, j0, h => by cases h; exact ⟨rfl, fun j u hj => by simp at hj⟩
 | t :: ts, us, j0, h => by
  simp only [Mv] at h
  cases hr : Mv cols (j0 + 1) ts with
  | none => rw [hr] at h; cases h
  | some vs =>
   rw [hr] at h
   obtain ⟨g1, g2⟩ := K7 hr
   have step : ∀ (x : T), ((V3 (cols.getD j0 .s) = true ∧ x = t) ∨ (V3 (cols.getD j0 .s) = false ∧ t = .nil0 ∧ x = .sl [])) → us = x :: vs → us.length = (t :: ts).length ∧ ∀ (j : Nat) (u : T), us[j]? = some u → ∃ t', (t :: ts)[j]? = some t' ∧ ((V3 (cols.getD (j0 + j) .s) = true ∧ u = t') ∨ (V3 (cols.getD (j0 + j) .s) = false ∧ t' = .nil0 ∧ u = .sl [])) := by
    intro x hx hu
    subst hu
    refine ⟨by simp [g1], fun j u hj => ?_⟩
    cases j with
    | zero => simp at hj; subst hj; exact ⟨t, rfl, hx⟩
    | succ j =>
     obtain ⟨t', q1, q2⟩ := g2 j u (by simpa using hj)
     rw [show j0 + 1 + j = j0 + (j + 1) from by omega] at q2
     exact ⟨t', by simpa using q1, q2⟩
   by_cases hs : V3 (cols.getD j0 .s) = true
   ·simp only [hs, if_true] at h
    cases h; exact step t (.inl ⟨hs, rfl⟩) rfl
   ·simp only [if_neg hs] at h
    cases t with
    | nil0 => cases h; exact step _ (.inr ⟨by simpa using hs, rfl, rfl⟩) rfl
    | _ => cases h
theorem Lr {st : St} (b e : Nat) (cols : List Ow) (rows rows' : List (List T)) (hb : st.bx b = some (.vec e rows)) (hr : rows.mapM (Mv cols 0) = some rows') : Gq P X st (St.setB st b (.dvec e cols rows')) := by
 rintro a w ⟨G, h⟩
 obtain ⟨g1, g2⟩ := Oy hr
 refine ⟨G, h.frame (bx' := (St.setB st b (.dvec e cols rows')).bx) ?_ ⟨fun _ h => h, fun _ _ => rfl, fun _ _ => rfl, fun _ _ => rfl⟩ (fun _ _ => rfl) ?_ ?_ ?_ h.S_lt h.S_src h.below (fun _ _ => ⟨rfl, rfl, rfl⟩)⟩
 ·intro c hc; simp only [St.setB]; split <;> simp [hc]
 ·intro c k hc
  simp only [St.setB] at hc
  split at hc
  ·rename_i e1; subst e1; cases hc
   refine .inr ⟨?_, fun c' hc' => by cases hc'⟩
   rcases h.blk c _ hb with ⟨a0, h1, h2, h3⟩ | ⟨β, cap, arr, el, h0, h1, h2, h3, h4, h5, h6⟩
   ·refine .inl ⟨a0, h1, ?_, h3⟩
    subst h2
    exact zD1 (by simpa using g1)
   ·refine .inr ⟨β, cap, arr, el, fun _ _ _ => False, h0, by rw [g1]; exact h1, h2, by rw [g1]; exact h3, h4, ?_, ?_, fun _ _ _ h => h.elim, fun _ _ h => h, fun _ _ _ _ _ h => h.elim⟩
    ·intro i row hi
     obtain ⟨row0, q1, q2⟩ := g2 i row hi
     rw [(K7 q2).1]; exact h5 i row0 q1
    ·intro i row j t hi hj
     obtain ⟨row0, q1, q2⟩ := g2 i row hi
     obtain ⟨t0, q3, q4⟩ := (K7 q2).2 j t hj
     have hv := h6 i row0 j t0 q1 q3
     rw [zA1] at q4
     rcases q4 with ⟨q5, q6⟩ | ⟨q5, q6, q7⟩
     ·rw [WO q5, q6]; exact .s hv
     ·subst q6; subst q7
      generalize Aw arr (i * e + j) = v at hv
      cases hv with
      | nil0 a' =>
       cases hcol : cols.getD j .s with
       | s => rw [hcol] at q5; cases q5
       | x e2 cols2 => exact .nil a' e2 cols2
  ·exact .inl ⟨hc, fun _ _ _ => rfl⟩
 ·intro c k β hc hr hβ
  simp only [St.setB] at hc
  split at hc
  ·rename_i e1; subst e1; exact h.at_ok _ _ β hb rfl hβ
  ·exact h.at_ok c k β hc hr hβ
 ·intro c c' k k' β hc hc' hr hr' hβ hβ'
  simp only [St.setB] at hc hc'
  have old : ∀ c k, (if c = b then some (BH.dvec e cols rows') else st.bx c) = some k → k.real = true → ∃ k0, st.bx c = some k0 ∧ k0.real = true := by
   intro c k hc hr
   split at hc
   ·rename_i e1; subst e1; exact ⟨_, hb, rfl⟩
   ·exact ⟨k, hc, hr⟩
  obtain ⟨k0, q1, q2⟩ := old c k hc hr
  obtain ⟨k0', q1', q2'⟩ := old c' k' hc' hr'
  exact h.at_inj c c' k0 k0' β q1 q1' q2 q2' hβ hβ'
end Go.Lift
namespace Go.Lift
open Go.RowKit
variable {P : Program} {X : Im} {ops : Array Oper}
theorem R1 {w : World} {β off e n len cap : Nat} {arr : Array Value} {el : TypeId} {fz : Nat × Nat} (hb : w.heap[β]? = some (.cells arr el fz)) (h : off + n * e ≤ arr.size) :
  ∃ news : Array Value, (∀ w' : World, w'.heap = w.heap → (Builtin.firstCells e n (.slice (some ⟨β, off, none⟩) len cap)).run P w' = .ok news w') ∧ news.size = n * e ∧ ∀ j, j < n * e → Aw news j = Aw arr (off + j) :=
 ⟨_, fun w' hw' => G9 (by rw [hw']; exact hb) h, by simp, fun j hj => HL hj⟩
section run
variable {dr : Bool} {Q : St → Prop} {r i : Nat} {st : St} {log : List (Nat × CM)} {o : Oper} {gs : List (Operand × D)}
structure Kv (w : World) (S : Nat → Prop) (e : Nat) (cols : List Ow) (rows : List (List T)) (Rf : Nat → Nat → Nat → Prop) (f : Nat → Value) : Prop where
 len : ∀ (i : Nat) (row : List T), rows[i]? = some row → row.length = e
 cell : ∀ (i : Nat) (row : List T) (j : Nat) (t : T), rows[i]? = some row → row[j]? = some t → Ru w S (cols.getD j .s) (Rf i j) (f (i * e + j)) t
 dis : ∀ i j i' j' γ, Rf i j γ → Rf i' j' γ → i = i' ∧ j = j'
theorem Kv.ones {w : World} {S : Nat → Prop} {e : Nat} {cols : List Ow} {rows : List (List T)} {Rf : Nat → Nat → Nat → Prop} {arr : Array Value} (h : Kv w S e cols rows Rf (Aw arr)) (hs : arr.size = rows.length * e) : ∀ u, u ∈ arr.toList → G8 u = true := by
 intro u hu
 obtain ⟨k, hk⟩ := zA8.1 hu
 have hk' : arr[k]? = some u := by simpa using hk
 have hlt : k < arr.size := by
  rcases zD6 k arr.size with h' | h'
  ·exact h'
  ·rw [zE2 h'] at hk'; cases hk'
 rcases zK1 e with e0 | e0
 ·rw [e0, Nat.mul_zero] at hs; omega
 have h1 : k / e < rows.length := (Nat.div_lt_iff_lt_mul e0).2 (by omega)
 have h2 : k % e < e := Nat.mod_lt _ e0
 have hrow : rows[k / e]? = some rows[k / e] := by simp [h1]
 have hlen := h.len _ _ hrow
 have hcell : (rows[k / e])[k % e]? = some ((rows[k / e])[k % e]'(by omega)) := by simp [show k % e < rows[k / e].length from by omega]
 have := (h.cell _ _ _ _ hrow hcell).one
 rw [show k / e * e + k % e = k from by rw [Nat.mul_comm]; exact Nat.div_add_mod k e] at this
 simpa [Aw, hk'] using this
theorem Kv.app {w w' : World} {S : Nat → Prop} {e : Nat} {cols : List Ow} {rows rows2 : List (List T)} {Rf Rf2 : Nat → Nat → Nat → Prop} {f f2 g : Nat → Value} (h1 : Kv w S e cols rows Rf f) (h2 : Kv w S e cols rows2 Rf2 f2)
  (hx : ∀ i j i' j' γ, Rf i j γ → Rf2 i' j' γ → False) (hg1 : ∀ j, j < rows.length * e → g j = f j) (hg2 : ∀ j, j < rows2.length * e → g (rows.length * e + j) = f2 j)
  (hw : ∀ γ, S γ ∨ (∃ i j, Rf i j γ ∨ Rf2 i j γ) → w'.heap[γ]? = w.heap[γ]?) : Kv w' S e cols (rows ++ rows2) (fun i j γ => if i < rows.length then Rf i j γ else Rf2 (i - rows.length) j γ) g := by
 have hlen : ∀ (i : Nat) (row : List T), (rows ++ rows2)[i]? = some row → row.length = e := fun i row hi => by
  rcases zD6 i rows.length with h | h
  ·rw [zC4 h] at hi; exact h1.len i row hi
  ·rw [zD0 h] at hi; exact h2.len _ row hi
 refine ⟨hlen, fun i row j t hi hj => ?_, fun i j i' j' γ hγ hγ' => ?_⟩
 ·have hj' := AC hj
  have he := hlen i row hi
  rcases zD6 i rows.length with h | h
  ·rw [zC4 h] at hi
   have hle : i * e + e ≤ rows.length * e := by rw [← zC7]; exact zA3 e h
   rw [hg1 _ (by omega)]
   exact (h1.cell i row j t hi hj).mono (fun γ hγ => hw γ (hγ.imp id fun hr => ⟨i, j, .inl hr⟩)) (fun _ h => h) (fun γ hγ => by rw [if_pos h]; exact hγ)
  ·rw [zD0 h] at hi
   have hi2 := AC hi
   have hle : (i - rows.length) * e + e ≤ rows2.length * e := by rw [← zC7]; exact zA3 e hi2
   have hsplit : i * e + j = rows.length * e + ((i - rows.length) * e + j) := by
    rw [← zF3, ← zD7, show rows.length + (i - rows.length) = i from by omega]
   rw [hsplit, hg2 _ (by omega)]
   exact (h2.cell _ row j t hi hj).mono (fun γ hγ => hw γ (hγ.imp id fun hr => ⟨_, j, .inr hr⟩)) (fun _ h => h) (fun γ hγ => by rw [if_neg (by omega)]; exact hγ)
 ·split at hγ <;> split at hγ'
  ·exact h1.dis i j i' j' γ hγ hγ'
  ·exact (hx _ _ _ _ γ hγ hγ').elim
  ·exact (hx _ _ _ _ γ hγ' hγ).elim
  ·have := h2.dis _ j _ j' γ hγ hγ'
   exact ⟨by omega, this.2⟩
theorem C5.dparts {G : Gh} {a : Act} {w : World} (hs : C5 P X G st a w) {x : Operand} {b e : Nat} {cols : List Ow} {rows : List (List T)} (hx : Lift.opd st.env x = some (.e (.one (.own b)))) (hb : st.bx b = some (.dvec e cols rows)) :
  ∃ p cap, a.eval x = .slice p rows.length cap ∧ rows.length ≤ cap ∧ ((rows = [] ∧ cap = 0) ∨ ∃ β arr el, ∃ Rf : Nat → Nat → Nat → Prop, p = some ⟨β, 0, none⟩ ∧ G.loc b = some β ∧ w.heap[β]? = some (.cells arr el (0, 0)) ∧ arr.size = cap * e ∧ Kv w G.S e cols rows Rf (Aw arr) ∧ (∀ i j γ, Rf i j γ → G.more b γ) ∧ (∀ i j, ¬ Rf i j β)) := by
 obtain ⟨hR, _⟩ : Fg P w G (a.eval x) (.own b) := hs.opd hx
 rcases hs.blk b _ hb with ⟨a0, h1, h2, _⟩ | ⟨β, cap, arr, el, Rf, h0, h1, h2, h3, h4, h5, h6, h7, h8, h9⟩
 ·subst h2; exact ⟨a0, 0, hR.trans h1, zB4 _, .inl ⟨rfl, rfl⟩⟩
 ·exact ⟨_, cap, hR.trans h1, h3, .inr ⟨β, arr, el, Rf, rfl, h0, h2, h4, ⟨h5, h6, h9⟩, h7, h8⟩⟩
theorem Qt {x y : Operand} {t t2 el el2 s b b2 e bytes : Nat} {cols : List Ow} {rows rows2 rows' : List (List T)} {z : Value} (hat : At st.env ops i X.n (.call ⟨.builtin .append, #[x, y], #[t, t2]⟩) s gs)
  (hx : opd st.env x = some (.e (.one (.own b)))) (hb : st.bx b = some (.dvec e cols rows)) (hy : opd st.env y = some (.e (.one (.own b2)))) (hb2 : st.bx b2 = some (.dvec e cols rows2)) (hnew : st.bx s = none) (hne : b ≠ b2)
  (ht : sliceB P t el = true) (ht2 : sliceB P t2 el2 = true) (he : HK P el e = true) (hby : F0 P el bytes = true) (hbs : bytes ≤ 4096) (hz : EE P el = some z) (hzs : z.cells.size = e) (hlim : rows.length + rows2.length ≤ Dw) (hr : rows ++ rows2 = rows') (hbl : Bt b = false) (hbl2 : Bt b2 = false)
  (next : A8 P X ops dr Q r (i + 1) (CM.upd ⟨gs ++ [(x, .e (.one (.own b))), (y, .e (.one (.own b2)))], [(b, .dvec e cols rows), (b2, .dvec e cols rows2)], some s, some (.e (.one (.own s))), (s, .dvec e cols rows') :: GA [b, b2], [s]⟩ st) ((i, ⟨gs ++ [(x, .e (.one (.own b))), (y, .e (.one (.own b2)))], [(b, .dvec e cols rows), (b2, .dvec e cols rows2)], some s, some (.e (.one (.own s))), (s, .dvec e cols rows') :: GA [b, b2], [s]⟩) :: log)) : A8 P X ops dr Q (r + 1) i st log := by
 obtain ⟨o, ho, hop, hd, hn, hg, hgp⟩ := hat.out
 refine A8.step next ⟨Ak.2 ⟨hgp, hx, hy, trivial⟩, ⟨hb, hb2, trivial⟩, hnew, trivial⟩ (LR.value ho hg rfl hd.symm (Dx hd hn) ?_)
 intro G st a w hs hpre
 obtain ⟨hx, hy, _⟩ := (Ak.1 hpre.r).2
 obtain ⟨hb, hb2, _⟩ := hpre.b
 have hnew := hpre.n.1
 subst hr
 have hsb : s ≠ b := fun e' => by rw [e', hb] at hnew; cases hnew
 have hsb2 : s ≠ b2 := fun e' => by rw [e', hb2] at hnew; cases hnew
 have hnl := hs.nl hn
 obtain ⟨p, cap, hx1, hx2, hx3⟩ := hs.dparts hx hb
 obtain ⟨p2, cap2, hy1, hy2, hy3⟩ := hs.dparts hy hb2
 have hbx : ∀ c, Bj st.bx ((s, .dvec e cols (rows ++ rows2)) :: GA [b, b2]) c = if c = s then some (.dvec e cols (rows ++ rows2)) else if c = b then some .gone else if c = b2 then some .gone else st.bx c := fun c => rfl
 have hrun : ∀ (v : Value) (w' : World), (Builtin.append_ #[t, t2] o.type #[a.eval x, a.eval y]).run P w = .ok v w' → (execOp a.eval o).run P w = .ok (.value v) w' := by
  intro v w' h
  simp only [execOp, hop]
  refine FE fun cs => ?_
  simp only [zF4, zC3, zG7, builtin]
  exact Aj h rfl
 -- the source's cells
 have hsrc : ∃ news Rf2, (∀ w' : World, w'.heap = w.heap → (Builtin.firstCells e rows2.length (a.eval y)).run P w' = .ok news w') ∧ news.size = rows2.length * e ∧ Kv w G.S e cols rows2 Rf2 (Aw news) ∧ (∀ i j γ, Rf2 i j γ → G.has b2 γ) := by
  rcases hy3 with ⟨h1, h2⟩ | ⟨β2, arr2, el2', Rf2, q1, q2, q3, q4, q5, q6, q7⟩
  ·subst h1
   obtain ⟨news, k1, k2, k3⟩ := EY (P := P) (w := w) (a := p2) (len := 0) (cap := cap2) (e := e) (S := G.S)
   refine ⟨news, fun _ _ _ => False, by rw [hy1]; exact k1, by simpa using k3, ⟨fun i row h => by simp at h, fun i row j t h => by simp at h, fun _ _ _ _ _ h => h.elim⟩, fun _ _ _ h => h.elim⟩
  ·subst q1
   have hle : 0 + rows2.length * e ≤ arr2.size := by rw [q4, zA1]; exact zA3 e hy2
   obtain ⟨news, k1, k2, k3⟩ := R1 (P := P) (len := rows2.length) (cap := cap2) q3 hle
   refine ⟨news, Rf2, by rw [hy1]; exact k1, k2, ⟨q5.len, fun i row j t hi hj => ?_, q5.dis⟩, fun i j γ h => .inr (q6 i j γ h)⟩
   have hj' := AC hj
   have hre := q5.len i row hi
   have hlt := AC hi
   have hle2 : i * e + e ≤ rows2.length * e := by rw [← zC7]; exact zA3 e hlt
   rw [k3 _ (by omega), zA1]
   exact q5.cell i row j t hi hj
 obtain ⟨news, Rf2, hn1, hn2, hn3, hn4⟩ := hsrc
 have hlen2 : news.toList.length = rows2.length * e := by simp [hn2]
 -- the new state, wherever the rows lie now
 have fin : ∀ (l : Option Nat) (v : Value) (m : Nat → Prop) (w' : World), (∀ β, l = some β → X.w0.heap.size ≤ β ∧ β < w'.heap.size ∧ ¬ G.S β ∧ (G.loc b = some β ∨ w.heap.size ≤ β)) → (∃ q n c, v = .slice q n c) → (∀ γ, m γ → G.has b γ ∨ G.has b2 γ) →
   (∀ γ, γ < w.heap.size → l ≠ some γ → w'.heap[γ]? = w.heap[γ]?) → w.heap.size ≤ w'.heap.size → DB X.L X.w0.heap.size X.w0 w' →
   (∀ G' : Gh, G'.S = G.S → G'.loc s = l → G'.hd s = v → G'.more s = m → Eu P w' G' s (.dvec e cols (rows ++ rows2))) →
   ∃ G', C5 P X G' ⟨st.env, Bj st.bx ((s, .dvec e cols (rows ++ rows2)) :: GA [b, b2])⟩ a w' ∧ ∀ d', some (D.e (.one (.own s))) = some d' → Hj P w' G' v d' ∧ ∀ c, c ∈ d'.names → (Bj st.bx ((s, .dvec e cols (rows ++ rows2)) :: GA [b, b2]) c).isSome = true := by
  intro l v m w' g1 gv gm g5 g6 g7 gblk
  let G' : Gh := { S := G.S, loc := fun c => if c = s then l else G.loc c, hd := fun c => if c = s then v else G.hd c, more := fun c => if c = s then m else G.more c }
  have hsome : ∀ c, (st.bx c).isSome = true → c ≠ s := fun c hc e => by rw [e, hnew] at hc; cases hc
  have hasS : ∀ γ, G'.has s γ → l = some γ ∨ G.has b γ ∨ G.has b2 γ := fun γ h => by
   unfold Gh.has at h
   simp only [G', if_true] at h
   rcases h with h | h
   ·exact .inl h
   ·exact .inr (gm γ h)
  have hasO : ∀ c γ, c ≠ s → (G'.has c γ ↔ G.has c γ) := fun c γ h => by unfold Gh.has; simp only [G', if_neg h]
  have old2 : ∀ c kk γ, st.bx c = some kk → kk.real = true → G.has c γ → l = some γ → c = b := fun c kk γ h1 h2 h3 h4 => by
   rcases (g1 γ h4).2.2.2 with g4 | g4
   ·exact hs.at_inj c b kk _ γ h1 hb h2 rfl h3 (.inl g4)
   ·have := (hs.at_ok c kk γ h1 h2 h3).2.1; omega
  refine ⟨G', hs.frame2 (fun c hc => ?_) (fun _ h => h) (fun c hc => by simp only [G', if_neg (hsome c hc)]) (fun c hc => by simp only [G', if_neg (hsome c hc)]) (fun γ hγ => g5 γ (hs.S_lt γ hγ) fun e' => (g1 γ e').2.2.1 hγ) ?_ ?_ ?_ (fun γ hγ => by have := hs.S_lt γ hγ; omega) hs.S_src g7 (fun c hc => ?_), ?_⟩
  ·rw [hbx]; split
   ·rfl
   ·split
    ·rfl
    ·split
     ·rfl
     ·exact hc
  ·intro c kk hc
   rw [hbx] at hc
   split at hc
   ·rename_i e1; subst e1; cases hc
    exact .inr ⟨gblk G' rfl (by simp [G']) (by simp [G']) (by simp [G']), fun c' hc' => by cases hc'⟩
   ·rename_i e1
    split at hc
    ·cases hc; exact .inr ⟨trivial, fun c' hc' => by cases hc'⟩
    ·rename_i e2
     split at hc
     ·cases hc; exact .inr ⟨trivial, fun c' hc' => by cases hc'⟩
     ·exact .inl ⟨hc, by simp only [G', if_neg e1], fun γ hr hγ => g5 γ (hs.at_ok c kk γ hc hr hγ).2.1 fun e' => e2 (old2 c kk γ hc hr hγ e')⟩
  ·intro c kk γ hc hr hγ
   rw [hbx] at hc
   split at hc
   ·rename_i e1; subst e1
    rcases hasS γ hγ with h | h | h
    ·exact ⟨.new (g1 γ h).1, (g1 γ h).2.1, (g1 γ h).2.2.1⟩
    ·have := hs.at_ok b _ γ hb rfl h
     exact ⟨.new (this.1.1 hbl), by omega, this.2.2⟩
    ·have := hs.at_ok b2 _ γ hb2 rfl h
     exact ⟨.new (this.1.1 hbl2), by omega, this.2.2⟩
   ·rename_i e1
    split at hc
    ·cases hc; cases hr
    ·split at hc
     ·cases hc; cases hr
     ·have := hs.at_ok c kk γ hc hr ((hasO c γ e1).1 hγ)
      exact ⟨this.1, by omega, this.2.2⟩
  ·intro c c' kk kk' γ hc hc' hr hr' hγ hγ'
   rw [hbx] at hc hc'
   have cl : ∀ c kk, (if c = s then some (BH.dvec e cols (rows ++ rows2)) else if c = b then some .gone else if c = b2 then some .gone else st.bx c) = some kk → kk.real = true → G'.has c γ → (c = s ∧ (l = some γ ∨ G.has b γ ∨ G.has b2 γ)) ∨ (c ≠ s ∧ c ≠ b ∧ c ≠ b2 ∧ st.bx c = some kk ∧ G.has c γ) := by
    intro c kk hc hr hγ
    split at hc
    ·rename_i e1; subst e1; exact .inl ⟨rfl, hasS γ hγ⟩
    ·rename_i e1
     split at hc
     ·cases hc; cases hr
     ·rename_i e2
      split at hc
      ·cases hc; cases hr
      ·rename_i e3; exact .inr ⟨e1, e2, e3, hc, (hasO c γ e1).1 hγ⟩
   have mix : ∀ c kk, c ≠ b → c ≠ b2 → st.bx c = some kk → kk.real = true → G.has c γ → (l = some γ ∨ G.has b γ ∨ G.has b2 γ) → False := by
    intro c kk q1 q2 q3 q4 q5 q6
    rcases q6 with h | h | h
    ·exact q1 (old2 c kk γ q3 q4 q5 h)
    ·exact q1 (hs.at_inj c b kk _ γ q3 hb q4 rfl q5 h)
    ·exact q2 (hs.at_inj c b2 kk _ γ q3 hb2 q4 rfl q5 h)
   rcases cl c kk hc hr hγ with ⟨q1, q2⟩ | ⟨q1, q2, q3, q4, q5⟩ <;> rcases cl c' kk' hc' hr' hγ' with ⟨q1', q2'⟩ | ⟨q1', q2', q3', q4', q5'⟩
   ·rw [q1, q1']
   ·exact (mix c' kk' q2' q3' q4' hr' q5' q2).elim
   ·exact (mix c kk q2 q3 q4 hr q5 q2').elim
   ·exact hs.at_inj c c' kk kk' γ q4 q4' hr hr' q5 q5'
  ·have e1 : c ≠ s := fun e' => by rw [e', hnl] at hc; cases hc
   refine ⟨?_, ?_, ?_⟩ <;> simp only [G', if_neg e1]
  ·rintro d' ⟨⟩
   refine ⟨⟨by simp [G'], gv⟩, fun c hc => ?_⟩
   have : c = s := by simpa [D.names, E.names, C.names] using hc
   subst this
   rw [hbx, if_pos rfl]; rfl
 -- rows that lie in a block
 have blk : ∀ (β cap' : Nat) (arr' : Array Value) (el' : TypeId) (Rf : Nat → Nat → Nat → Prop) (w' : World), w'.heap[β]? = some (.cells arr' el' (0, 0)) → rows.length + rows2.length ≤ cap' → arr'.size = cap' * e →
   Kv w' G.S e cols (rows ++ rows2) (fun i j γ => if i < rows.length then Rf i j γ else Rf2 (i - rows.length) j γ) (Aw arr') → (∀ i j, ¬ Rf i j β) → ¬ G.has b2 β →
   ∀ G' : Gh, G'.S = G.S → G'.loc s = some β → G'.hd s = .slice (some ⟨β, 0, none⟩) (rows.length + rows2.length) cap' → G'.more s = (fun γ => (∃ i j, Rf i j γ) ∨ ∃ i j, Rf2 i j γ) → Eu P w' G' s (.dvec e cols (rows ++ rows2)) := by
  intro β cap' arr' el' Rf w' g8 g9 g10 g11 g12 g13 G' hS hl hh hm
  refine .inr ⟨β, cap', arr', el', _, hl, by rw [hh]; simp, g8, by simpa using g9, g10, g11.len, fun i row j t hi hj => by rw [hS]; exact g11.cell i row j t hi hj, ?_, ?_, g11.dis⟩
  ·intro i j γ hγ
   rw [hm]
   split at hγ
   ·exact .inl ⟨i, j, hγ⟩
   ·exact .inr ⟨_, j, hγ⟩
  ·intro i j hγ
   split at hγ
   ·exact g12 i j hγ
   ·exact g13 (hn4 _ j β hγ)
 have hcross : ∀ (Rf : Nat → Nat → Nat → Prop), (∀ i j γ, Rf i j γ → G.has b γ) → ∀ i j i' j' γ, Rf i j γ → Rf2 i' j' γ → False := fun Rf hRf i j i' j' γ h1 h2 => hne (hs.at_inj b b2 _ _ γ hb hb2 rfl rfl (hRf i j γ h1) (hn4 i' j' γ h2))
 have hS2 : ∀ γ, (∃ i j, Rf2 i j γ) → γ < w.heap.size := fun γ ⟨i, j, h⟩ => (hs.at_ok b2 _ γ hb2 rfl (hn4 i j γ h)).2.1
 have hnewhas : ∀ c kk, st.bx c = some kk → kk.real = true → ¬ G.has c w.heap.size := fun c kk h1 h2 h3 => zG2 _ (hs.at_ok c kk _ h1 h2 h3).2.1
 -- a new block
 have fresh : ∀ (olds rest : Array Value) (c : Nat) (Rf : Nat → Nat → Nat → Prop), rows.length + rows2.length ≤ c → olds.size = rows.length * e → rest.size = (c - (rows.length + rows2.length)) * e → Kv w G.S e cols rows Rf (Aw olds) → (∀ i j γ, Rf i j γ → G.has b γ) →
   (Builtin.append_ #[t, t2] o.type #[a.eval x, a.eval y]).run P w = .ok (.slice (some ⟨w.heap.size, 0, none⟩) (rows.length + rows2.length) c) (w.drew.alloc (.cells (olds ++ news ++ rest) el)) →
   ∃ v w' G', (execOp a.eval o).run P w = .ok (.value v) w' ∧ C5 P X G' ⟨st.env, Bj st.bx ((s, .dvec e cols (rows ++ rows2)) :: GA [b, b2])⟩ a w' ∧ ∀ d, some (D.e (.one (.own s))) = some d → Hj P w' G' v d ∧ ∀ b_1, b_1 ∈ d.names → (Bj st.bx ((s, .dvec e cols (rows ++ rows2)) :: GA [b, b2]) b_1).isSome = true := by
  intro olds rest c Rf hc1 ho hrest hD hRf hrun1
  have hsz : (w.drew.alloc (.cells (olds ++ news ++ rest) el)).heap.size = w.heap.size + 1 := by show (w.heap.push _).size = _; simp
  have hheap : ∀ γ, γ < w.heap.size → (w.drew.alloc (.cells (olds ++ news ++ rest) el)).heap[γ]? = w.heap[γ]? := fun γ hγ => by rw [DG, if_neg (by rw [GJ]; omega)]; rfl
  have hat : (w.drew.alloc (.cells (olds ++ news ++ rest) el)).heap[w.heap.size]? = some (.cells (olds ++ news ++ rest) el) := by rw [DG, GJ, if_pos rfl]
  have hap : Kv (w.drew.alloc (.cells (olds ++ news ++ rest) el)) G.S e cols (rows ++ rows2) (fun i j γ => if i < rows.length then Rf i j γ else Rf2 (i - rows.length) j γ) (Aw (olds ++ news ++ rest)) := by
   refine hD.app hn3 (hcross Rf hRf) (fun j hj => ?_) (fun j hj => ?_) (fun γ hγ => hheap γ ?_)
   ·rw [CA (by simp [ho]; omega), CA (by omega)]
   ·rw [CA (by simp [ho, hn2]; omega), GW (by omega), ho, zH3]
   ·rcases hγ with h | ⟨i, j, h | h⟩
    ·exact hs.S_lt γ h
    ·exact (hs.at_ok b _ γ hb rfl (hRf i j γ h)).2.1
    ·exact (hs.at_ok b2 _ γ hb2 rfl (hn4 i j γ h)).2.1
  obtain ⟨G', k1, k2⟩ := fin (some w.heap.size) (.slice (some ⟨w.heap.size, 0, none⟩) (rows.length + rows2.length) c) (fun γ => (∃ i j, Rf i j γ) ∨ ∃ i j, Rf2 i j γ) _
   (fun β hβ => by cases hβ; exact ⟨hs.below.size, by omega, fun h => zG2 _ (hs.S_lt _ h), .inr (zB4 _)⟩) ⟨_, _, _, rfl⟩ (fun γ hγ => hγ.imp (fun ⟨i, j, h⟩ => hRf i j γ h) (fun ⟨i, j, h⟩ => hn4 i j γ h)) (fun γ h1 _ => hheap γ h1) (by omega)
   ((hs.below.drew).alloc (by rw [GJ]; exact hs.below.size) _)
   (blk w.heap.size c _ el Rf _ hat hc1 (by simp only [Array.size_append, ho, hn2, hrest]; rw [← zD7, ← zD7]; congr 1; omega) hap (fun i j h => hnewhas b _ hb rfl (hRf i j _ h)) (fun h => hnewhas b2 _ hb2 rfl h))
  exact ⟨_, _, G', hrun _ _ hrun1, k1, k2⟩
 rcases hx3 with ⟨h1, h2⟩ | ⟨β, arr, el', Rf, q1, q2, q3, q4, q5, q6, q7⟩
 · -- nothing was there
  obtain ⟨olds, k1, k2, k3⟩ := EY (P := P) (w := w) (a := p) (len := 0) (cap := 0) (e := e) (S := G.S)
  have hr0 : rows.length = 0 := by rw [h1]; rfl
  have hold : ∀ w' : World, w'.heap = w.heap → (Builtin.firstCells e rows.length (.slice p rows.length cap)).run P w' = .ok olds w' := by rw [hr0, h2]; exact k1
  rcases F7 (ty := o.type) (a := p) (n := rows.length) (cap := cap) ht ht2 he hby hbs hz hzs hy1 hold hn1 hlim hx2 with ⟨hfit, hrun1⟩ | ⟨hfit, c, rest, hc1, hrun1, hrest⟩
  ·have hr2 : rows2 = [] := zD1 (by omega)
   have hn0 : news.toList = [] := zD1 (by rw [hlen2, hr2]; simp)
   have hrun2 := hrun1 w (fun q _ => by rw [hn0]; rfl) (fun _ => rfl)
   rw [← hx1] at hrun2
   obtain ⟨G', g1, g2⟩ := fin none (.slice p (rows.length + rows2.length) cap) (fun _ => False) w (fun β h => by cases h) ⟨_, _, _, rfl⟩ (fun _ h => h.elim) (fun _ _ _ => rfl) (zB4 _) hs.below
    (fun G' hS hl hh hm => .inl ⟨p, by rw [hh, hr0, hr2, h2]; rfl, by rw [h1, hr2]; rfl, hl⟩)
   exact ⟨_, w, G', hrun _ _ hrun2, g1, g2⟩
  ·rw [← hx1] at hrun1
   exact fresh olds rest c (fun _ _ _ => False) hc1 (by rw [hr0]; simpa using k3) hrest ⟨fun i row h => by rw [h1] at h; simp at h, fun i row j t h => by rw [h1] at h; simp at h, fun _ _ _ _ _ h => h.elim⟩ (fun _ _ _ h => h.elim) hrun1
 ·subst q1
  have hle : 0 + rows.length * e ≤ arr.size := by rw [q4, zA1]; exact zA3 e hx2
  obtain ⟨olds, k1, k2, k3⟩ := R1 (P := P) (len := rows.length) (cap := cap) q3 hle
  have hatb := hs.at_ok b _ β hb rfl (.inl q2)
  rcases F7 (ty := o.type) (a := some ⟨β, 0, none⟩) (n := rows.length) (cap := cap) ht ht2 he hby hbs hz hzs hy1 k1 hn1 hlim hx2 with ⟨hfit, hrun1⟩ | ⟨hfit, c, rest, hc1, hrun1, hrest⟩
  ·have hbnd : rows.length * e + rows2.length * e ≤ arr.size := by rw [q4, ← zD7]; exact zA3 e hfit
   have hst := FX (P := P) (β := β) (el := el') news.toList w (rows.length * e) 0 arr q3 (by rw [hlen2]; omega) (hn3.ones hn2)
   rw [zF9] at hst
   have hrun2 := hrun1 _ (fun p hp => by cases hp; rw [Addr.add_mk, zA1]; exact hst) (fun h => by cases h)
   rw [← hx1] at hrun2
   have hheap : ∀ γ, γ ≠ β → (GO w β (.cells (FR arr (rows.length * e) news.toList) el' (0, 0))).heap[γ]? = w.heap[γ]? := fun γ hγ => by rw [EC, if_neg (fun h => hγ h.1)]
   have hszw : (GO w β (.cells (FR arr (rows.length * e) news.toList) el' (0, 0))).heap.size = w.heap.size := by simp [GO]
   have hov : ∀ j, Aw (FR arr (rows.length * e) news.toList) j = if rows.length * e ≤ j ∧ j < rows.length * e + rows2.length * e then Aw news (j - rows.length * e) else Aw arr j := fun j => by
    rw [Fx _ _ _ _ (by rw [hlen2]; exact hbnd), hlen2, FJ]
   have hb2β : ¬ G.has b2 β := fun h => hne (hs.at_inj b b2 _ _ β hb hb2 rfl rfl (.inl q2) h)
   have hap : Kv (GO w β (.cells (FR arr (rows.length * e) news.toList) el' (0, 0))) G.S e cols (rows ++ rows2) (fun i j γ => if i < rows.length then Rf i j γ else Rf2 (i - rows.length) j γ) (Aw (FR arr (rows.length * e) news.toList)) := by
    refine q5.app hn3 (hcross Rf (fun i j γ h => .inr (q6 i j γ h))) (fun j hj => by rw [hov, if_neg (by omega)]) (fun j hj => by rw [hov, if_pos (by omega), zH3]) (fun γ hγ => hheap γ ?_)
    rcases hγ with h | ⟨i, j, h | h⟩
    ·exact fun e' => hatb.2.2 (e' ▸ h)
    ·exact fun e' => q7 i j (e' ▸ h)
    ·exact fun e' => hb2β (e' ▸ hn4 i j γ h)
   obtain ⟨G', g1, g2⟩ := fin (some β) (.slice (some ⟨β, 0, none⟩) (rows.length + rows2.length) cap) (fun γ => (∃ i j, Rf i j γ) ∨ ∃ i j, Rf2 i j γ) _
    (fun γ hγ => by cases hγ; exact ⟨hatb.1.1 hbl, by omega, hatb.2.2, .inl q2⟩) ⟨_, _, _, rfl⟩ (fun γ hγ => hγ.imp (fun ⟨i, j, h⟩ => .inr (q6 i j γ h)) (fun ⟨i, j, h⟩ => hn4 i j γ h)) (fun γ _ h2 => hheap γ fun e' => h2 (by rw [e'])) (by omega)
    (LT hs.below hatb.1.2 _)
    (blk β cap _ el' Rf _ (by rw [EC, if_pos ⟨rfl, hatb.2.1⟩]) hfit (by rw [GK, q4]) hap q7 hb2β)
   exact ⟨_, _, G', hrun _ _ hrun2, g1, g2⟩
  ·rw [← hx1] at hrun1
   refine fresh olds rest c Rf hc1 k2 hrest ⟨q5.len, fun i row j t hi hj => ?_, q5.dis⟩ (fun i j γ h => .inr (q6 i j γ h)) hrun1
   have hj' := AC hj
   have hre := q5.len i row hi
   have hlt := AC hi
   have hle2 : i * e + e ≤ rows.length * e := by rw [← zC7]; exact zA3 e hlt
   rw [k3 _ (by omega), zA1]
   exact q5.cell i row j t hi hj
end run
theorem UN {st : St} (b e : Nat) (cols : List Ow) (rows : List (List T)) (hb : st.bx b = some (.dvec e cols rows)) (hlt : Bt b = false) : Gq P X st (st.frg b (zV (.sl rows))) :=
 PU b _ rows hb rfl hlt fun w G hB => by
  have hX : Ru w G.S (.x e cols) (G.has b) (G.hd b) (.sl rows) := by
   rcases hB with ⟨a, h1, h2, _⟩ | ⟨β, cap, arr, el, Rf, h0, h1, h2, h3, h4, h5, h6, h7, h8, h9⟩
   ·rw [h1, h2]; exact .nil a e cols
   ·rw [h1]
    exact .sl β cap e cols arr el rows Rf h2 h3 h4 h5 h6 (.inl h0) (fun i j γ hγ => .inr (h7 i j γ hγ)) h8 h9
  exact hX.toT (fun β h => .inl h) fun β h => .inr h
end Go.Lift
namespace Go.Lift
open Go.RowKit
variable {P : Program} {X : Im} {ops : Array Oper}
theorem Iu {α : Type} (f : α → List T) (b e : Nat) (xs : List α) : N5 (.e (.one (.own b))) b e (xs.map f) 0 xs.length := by
 have := N5.own b e (xs.map f)
 rwa [zC2] at this
theorem Nl {α : Type} (f : α → List T) (b e lo len : Nat) (xs : List α) (h : lo + len ≤ xs.length) : N5 (.e (.one (.view b e lo len))) b e (xs.map f) lo len := .view b e _ lo len (by simpa using h)
theorem U1 {α : Type} (f : α → List T) (b e lo len : Nat) (xs : List α) (h : lo + len ≤ xs.length) : PK (.e (.one (.view b e lo len))) [(b, .vec e (xs.map f))] e (((xs.drop lo).take len).map f) := by
 have := PK.view b e (xs.map f) lo len (by simpa using h)
 rwa [← List.map_drop, ← List.map_take] at this
theorem WK {α : Type} (f : α → List T) (b e : Nat) (xs : List α) : PK (.e (.one (.own b))) [(b, .vec e (xs.map f))] e (xs.map f) := .of (.own _ _ _)
theorem XM {α : Type} (f : α → List T) (e : Nat) (xs : List α) (h : ∀ x, (f x).length = e) : PK (one (.sl (xs.map f))) [] e (xs.map f) := .of (.sl _ _ (MT h xs))
section run
variable {dr : Bool} {Q : St → Prop} {r i : Nat} {st : St} {log : List (Nat × CM)} {o : Oper} {gs : List (Operand × D)}
theorem Jb {α : Type} (f : α → List T) (xs : List α) {x : Operand} {t el s e l h b lo0 len lo1 len1 : Nat} {lo hi : Option Operand} {rl rh : List (Operand × D)} {d : D} (hat : At st.env ops i X.n (.slice t x lo hi none) s gs)
  (hx : opd st.env x = some d) (hD : N5 d b e (xs.map f) lo0 len) (hb : st.bx b = some (.vec e (xs.map f))) (ht : sliceB P t el = true) (he : HK P el e = true) (hlo : Vn lo 0 l rl) (hhi : Vn hi len h rh) (h1 : F2 st.env rl) (h2 : F2 st.env rh) (hlh : l ≤ h) (hhl : lo0 + h ≤ xs.length) (e1 : lo0 + l = lo1) (e2 : h - l = len1)
  (next : A8 P X ops dr Q r (i + 1) (CM.upd ⟨gs ++ ((x, d) :: (rl ++ rh)), [(b, .vec e (xs.map f))], some s, some (.e (.one (.view b e lo1 len1))), [], []⟩ st) ((i, ⟨gs ++ ((x, d) :: (rl ++ rh)), [(b, .vec e (xs.map f))], some s, some (.e (.one (.view b e lo1 len1))), [], []⟩) :: log)) : A8 P X ops dr Q (r + 1) i st log := by
 subst e1; subst e2
 exact VQ hat hx hD hb ht he hlo hhi h1 h2 hlh (by simpa using hhl) next
theorem UA {α : Type} (f : α → List T) (xs ys : List α) {x y : Operand} {t t2 el s e b lo len : Nat} {d d2 : D} {rb2 : List (Nat × BH)} (hat : At st.env ops i X.n (.call ⟨.builtin .copy, #[x, y], #[t, t2]⟩) s gs)
  (hx : opd st.env x = some d) (hD : N5 d b e (xs.map f) lo len) (hb : st.bx b = some (.vec e (xs.map f))) (hy : opd st.env y = some d2) (hS : PK d2 rb2 e (ys.map f)) (hb2 : Hz st.bx rb2) (ht : sliceB P t el = true) (he : HK P el e = true)
  (next : A8 P X ops dr Q r (i + 1) (CM.upd ⟨gs ++ [(x, d), (y, d2)], (b, .vec e (xs.map f)) :: rb2, some s, some (vD (.int .i64 ((zE5 ys.length len : Nat) : Int))), [(b, .vec e ((HY xs lo (ys.take (zE5 ys.length len))).map f))], []⟩ st) ((i, ⟨gs ++ [(x, d), (y, d2)], (b, .vec e (xs.map f)) :: rb2, some s, some (vD (.int .i64 ((zE5 ys.length len : Nat) : Int))), [(b, .vec e ((HY xs lo (ys.take (zE5 ys.length len))).map f))], []⟩) :: log)) : A8 P X ops dr Q (r + 1) i st log := by
 have hl : (ys.map f).length = ys.length := zC2 _
 refine Zq hat hx hD hb hy hS hb2 ht he (rows' := (HY xs lo (ys.take (zE5 ys.length len))).map f) ?_ ?_
 ·rw [hl, ← List.map_take, Uv]
 ·rw [hl]; exact next
theorem RO {α : Type} (f : α → List T) (xs : List α) (z0 : α) {x : Operand} {t el b e lo len : Nat} {z : Value} {zs : List Value} {d : D} (hop0 : S3 ops i = some (.call ⟨.builtin .clear, #[x], #[t]⟩))
  (hx : opd st.env x = some d) (hD : N5 d b e (xs.map f) lo len) (hb : st.bx b = some (.vec e (xs.map f))) (ht : sliceB P t el = true) (hz : EE P el = some z) (hzs : z.cells.toList = zs) (hz1 : zs.all G8 = true) (hze : zs.length = e) (hf : (zs.map fun v => (T.of v).nrm) = f z0)
  (next : A8 P X ops dr Q r (i + 1) (CM.upd ⟨[(x, d)], [(b, .vec e (xs.map f))], none, none, [(b, .vec e ((HY xs lo (zA2 len z0)).map f))], []⟩ st) ((i, ⟨[(x, d)], [(b, .vec e (xs.map f))], none, none, [(b, .vec e ((HY xs lo (zA2 len z0)).map f))], []⟩) :: log)) : A8 P X ops dr Q (r + 1) i st log := by
 refine WV hop0 hx hD hb ht hz hzs hz1 hze (rows' := (HY xs lo (zA2 len z0)).map f) ?_ next
 rw [hf, ← Uv]; simp
theorem Xv {x : Operand} {s t el b e lo len : Nat} (hat : At st.env ops i X.n (.call ⟨.builtin .len, #[x], #[t]⟩) s gs)
  (hx : opd st.env x = some (.e (.one (.view b e lo len)))) (ht : sliceB P t el = true)
  (next : A8 P X ops dr Q r (i + 1) (CM.upd ⟨gs ++ [(x, .e (.one (.view b e lo len)))], [], some s, some (vD (.int .i64 (len : Int))), [], []⟩ st) ((i, ⟨gs ++ [(x, .e (.one (.view b e lo len)))], [], some s, some (vD (.int .i64 (len : Int))), [], []⟩) :: log)) : A8 P X ops dr Q (r + 1) i st log := Y2 hat hx ht next
end run
theorem Q5 {α : Type} {st : St} (f : α → List T) (xs : List α) (s b e : Nat) (hs0 : st.env s = some (.e (.one (.own b)))) (hb : st.bx b = some (.vec e (xs.map f))) : Gq P X st (St.put st (some s) (some (.e (.one (.view b e 0 xs.length))))) := by
 have := Vj (P := P) (X := X) s b e (xs.map f) hs0 hb
 rwa [zC2] at this
theorem Vz {α : Type} {st : St} (f : α → List T) (xs : List α) (s b n e len : Nat) (hs0 : st.env s = some (.e (.one (.view b e 0 len)))) (hb : st.bx b = some (.vec e (xs.map f))) (hn : st.bx n = none) (hlb : Bt b = false) (hln : Bt n = false) (hle : len ≤ xs.length) :
  Gq P X st (St.put ⟨st.env, Bj st.bx [(n, .vec e ((xs.take len).map f)), (b, .gone)]⟩ (some s) (some (.e (.one (.own n))))) := by
 have := Xe (P := P) (X := X) s b n e len (xs.map f) hs0 hb hn hlb hln (by simpa using hle)
 rwa [← List.map_take] at this
theorem JH (a b : ByteArray) : (a == b) = (a.data == b.data) := by
 cases a; cases b; rfl
theorem L1 (a b : ByteArray) (h : (a == b) = true) : (b == a) = true := by
 rw [JH] at h ⊢
 rw [beq_iff_eq] at h ⊢; exact h.symm
def Up (f : Nat → Nat) (env : Nat → Option D) : List (Nat × D) → Prop
 | [] => True
 | (s, d) :: ps => env s = some (d.ren f) ∧ Up f env ps
def Ue (f : Nat → Nat) (bx : Nat → Option BH) : List (Nat × BH) → Prop
 | [] => True
 | (b, k) :: ps => bx (f b) = some (k.ren f) ∧ Ue f bx ps
def FN : List (Nat × BH) → List Nat
 | [] => []
 | (b, _) :: ps => b :: FN ps
def Nc (f : Nat → Nat) : List Nat → Bool
 | [] => true
 | b :: bs => (if Bt b then f b == b else !Bt (f b)) && Nc f bs
def ao (b : Nat) : List Nat → Bool
 | [] => false
 | c :: cs => c == b || ao b cs
def PW (ns : List Nat) : List (Nat × D) → Bool
 | [] => true
 | (_, d) :: ps => (d.names.all fun b => ao b ns) && PW ns ps
def Qh (ns : List Nat) : List (Nat × BH) → Bool
 | [] => true
 | (_, d) :: ps => (d.names.all fun b => ao b ns) && Qh ns ps
theorem RF {f : Nat → Nat} {env : Nat → Option D} : ∀ {el : List (Nat × D)}, Up f env el → XC f env el
 | [], _ => trivial
 | (_, _) :: _, h => ⟨h.1, RF h.2⟩
theorem SD {f : Nat → Nat} {bx : Nat → Option BH} : ∀ {bl : List (Nat × BH)}, Ue f bx bl → XL f bx bl
 | [], _ => trivial
 | (_, _) :: _, h => ⟨h.1, SD h.2⟩
theorem Qx : ∀ bl : List (Nat × BH), FN bl = bl.map (·.1)
 | [] => rfl
 | (b, k) :: ps => by simp [FN, Qx ps]
theorem Qe {f : Nat → Nat} : ∀ bl : List (Nat × BH), Nc f (FN bl) = bl.all fun p => if Bt p.1 then f p.1 == p.1 else !Bt (f p.1)
 | [] => rfl
 | (b, k) :: ps => by simp only [FN, Nc, zG3, Qe ps]
theorem TK {b : Nat} : ∀ bl : List (Nat × BH), ao b (FN bl) = bl.any fun q => q.1 == b
 | [] => rfl
 | (c, k) :: ps => by simp only [FN, ao, List.any_cons, TK ps]
theorem RU (bl : List (Nat × BH)) : ∀ el : List (Nat × D), PW (FN bl) el = el.all fun p => p.2.names.all fun b => bl.any fun q => q.1 == b
 | [] => rfl
 | (s, d) :: ps => by simp only [PW, zG3, RU bl ps, TK]
theorem RH (bl : List (Nat × BH)) : ∀ el : List (Nat × BH), Qh (FN bl) el = el.all fun p => p.2.names.all fun b => bl.any fun q => q.1 == b
 | [] => rfl
 | (s, d) :: ps => by simp only [Qh, zG3, RH bl ps, TK]
theorem VT {st : St} (f : Nat → Nat) (el : List (Nat × D)) (bl : List (Nat × BH)) (he : Up f st.env el) (hb : Ue f st.bx bl) (hi : (Iv ((FN bl).map f) && Nc f (FN bl)) = true) (hs : (PW (FN bl) el && Qh (FN bl) bl) = true) : Gq P X st (mk el bl) := by
 refine Xp f el bl (RF he) (SD hb) ?_ ?_
 ·rw [Qe, Qx] at hi; exact hi
 ·rw [RU, RH] at hs; exact hs
theorem LV {α : Type} (f : α → List T) (xs : List α) (e i k c : Nat) (cols : List Ow) : vl (.hol e cols i k c (xs.map f)) = some (e, xs.length) := by simp [vl]
theorem UU {dr : Bool} {Q : St → Prop} {r i : Nat} {st : St} {log : List (Nat × CM)} {gs : List (Operand × D)} {x y : Operand} {t s : Nat} {b : ByteArray} {k : IntKind} {n v : Int} (hat : At st.env ops i X.n (.index t x y) s gs)
  (hx : opd st.env x = some (vD (.string b))) (hy : opd st.env y = some (vD (.int k n))) (ht : PX P t = true) (hv : XZ b n = some v)
  (next : A8 P X ops dr Q r (i + 1) (CM.upd ⟨gs ++ [(x, vD (.string b)), (y, vD (.int k n))], [], some s, some (vD (.int .u8 v)), [], []⟩ st) ((i, ⟨gs ++ [(x, vD (.string b)), (y, vD (.int k n))], [], some s, some (vD (.int .u8 v)), [], []⟩) :: log)) : A8 P X ops dr Q (r + 1) i st log := by
 obtain ⟨c, h0, hc, e⟩ := US (f := some) (r := v) (by rw [hv]; rfl)
 cases e
 exact Xa hat hx hy ht h0 hc next
theorem Nq {t kt el : TypeId} (h1 : P.underlying t = some (.map kt el)) (h2 : P.underlying kt = some .string) : RY P t Value.string where
 ty := ⟨kt, el, .string, h1, h2, fun _ _ => rfl, fun e n v w => by
  unfold Instr.checkKey
  refine Aj (AO h2 w) ?_
  rfl⟩
 same := fun a b h => by
  show (b == a) = true
  exact L1 a b h
end Go.Lift
namespace Go.Lift
open Go.RowKit
variable {P : Program} {X : Im} {ops : Array Oper}
def hd (env : Nat → Option D) (ops : Array Oper) (i n : Nat) : Option (Op × Nat × List (Operand × D)) := match cG ops i n with
 | some (op, s) => some (op, s, [])
 | none => match co ops i n with
  | some (op, s, t, want) => (match env t, want with
   | some (.e (.one (.pure (.val (.bool true))))), true => some (op, s, [(.tmp t, bD true)])
   | some (.e (.one (.pure (.val (.bool false))))), false => some (op, s, [(.tmp t, bD false)])
   | _, _ => none)
  | none => none
theorem DP {env : Nat → Option D} {n i s : Nat} {op : Op} {gs : List (Operand × D)} (h : hd env ops i n = some (op, s, gs)) : At env ops i n op s gs := by
 unfold hd at h
 split at h
 ·rename_i e; cases h; exact .p e
 ·split at h
  ·rename_i e
   split at h
   ·rename_i e2; cases h; exact .g e e2
   ·rename_i e2; cases h; exact .g e e2
   ·cases h
  ·cases h
theorem t2 {α β : Type} {a c : α} {b d : β} (h : (a, b) = (c, d)) : a = c ∧ b = d := Prod.mk.inj h
abbrev Nx (P : Program) (X : Im) (ops : Array Oper) (dr : Bool) (Q : St → Prop) (r i : Nat) (st : St) (log : List (Nat × CM)) (l : CM) : Prop := A8 P X ops dr Q r (i + 1) (CM.upd l st) ((i, l) :: log)
theorem sj {α : Type} {a b : α} (h : some a = some b) : a = b := Option.some.inj h
def WY (env : Nat → Option D) : List Operand → Option (List D)
 | [] => some []
 | x :: xs => match opd env x, WY env xs with
  | some d, some ds => some (d :: ds)
  | _, _ => none
theorem Rs {env : Nat → Option D} : ∀ {xs : List Operand} {ds : List D}, WY env xs = some ds → xs.length = ds.length ∧ F2 env (H4 xs ds)
 | [], ds, h => by cases h; exact ⟨rfl, trivial⟩
 | x :: xs, ds, h => by
  simp only [WY] at h
  split at h
  ·rename_i e1 e2
   cases h
   have := Rs e2
   exact ⟨by simp [this.1], e1, this.2⟩
  ·cases h
def bM (bx : Nat → Option BH) : List Nat → Option (List (Nat × BH))
 | [] => some []
 | b :: bs => match bx b, bM bx bs with
  | some k, some ks => some ((b, k) :: ks)
  | _, _ => none
theorem Wn {bx : Nat → Option BH} : ∀ {l : List Nat} {bs : List (Nat × BH)}, bM bx l = some bs → Hz bx bs
 | [], bs, h => by cases h; trivial
 | b :: l, bs, h => by
  simp only [bM] at h
  split at h
  ·rename_i e1 e2
   cases h
   exact ⟨e1, Wn e2⟩
  ·cases h
def ZV (env : Nat → Option D) : List (Nat × Operand) → Option (List (Nat × Operand × E))
 | [] => some []
 | p :: ps => match opd env p.2, ZV env ps with
  | some (.e y), some qs => some ((p.1, p.2, y) :: qs)
  | _, _ => none
theorem Uk {env : Nat → Option D} : ∀ {l : List (Nat × Operand)} {ps : List (Nat × Operand × E)}, ZV env l = some ps → l = (ps.map fun p => (p.1, p.2.1)) ∧ F2 env (Jh ps)
 | [], ps, h => by cases h; exact ⟨rfl, trivial⟩
 | p :: l, ps, h => by
  simp only [ZV] at h
  split at h
  ·rename_i e1 e2
   cases h
   have := Uk e2
   exact ⟨by rw [zC3, ← this.1], e1, this.2⟩
  ·cases h
theorem VL {env : Nat → Option D} {parts : Array (Nat × Operand)} {ps : List (Nat × Operand × E)} (h : ZV env parts.toList = some ps) : parts = (ps.map fun p => (p.1, p.2.1)).toArray ∧ F2 env (Jh ps) := by
 have := Uk h
 exact ⟨by rw [← this.1], this.2⟩
def Yn (k : Nat) : List (Nat × Operand × E) → Bool
 | [] => true
 | p :: ps => Nat.beq p.1 k && Yn (k + 1) ps
theorem Uh : ∀ {k : Nat} {ps : List (Nat × Operand × E)}, Yn k ps = true → ps.map (·.1) = zI5 k ps.length
 | _, [], _ => rfl
 | k, p :: ps, h => by
  simp only [Yn, zA4] at h
  rw [zC3, zC6, List.range'_succ, Uh h.2, Nat.eq_of_beq_eq_true h.1]
def ct : Option BH → Bool
 | none => true
 | some _ => false
theorem Rk {bx : Nat → Option BH} : ∀ {ns : List Nat}, (ns.all fun n => ct (bx n)) = true → M6 bx ns
 | [], _ => trivial
 | n :: ns, h => by
  simp only [zG3, zA4] at h
  refine ⟨?_, Rk h.2⟩
  have := h.1
  cases hb : bx n with
  | none => rfl
  | some k => rw [hb] at this; cases this
theorem PV {ns : List Nat} (h : (Iv ns && (ns.all fun n => !Bt n)) = true) : K3 ns := by
 rw [zA4] at h
 exact ⟨Ik h.1, fun c hc => by simpa using zA5.1 h.2 c hc⟩
def Z1 (env : Nat → Option D) : List (Nat × D) → List (Option D)
 | [] => []
 | (s, _) :: ps => env s :: Z1 env ps
def ah (f : Nat → Nat) : List (Nat × D) → List (Option D)
 | [] => []
 | (_, d) :: ps => some (d.ren f) :: ah f ps
def bF (f : Nat → Nat) (bx : Nat → Option BH) : List (Nat × BH) → List (Option BH)
 | [] => []
 | (b, _) :: ps => bx (f b) :: bF f bx ps
def bc (f : Nat → Nat) : List (Nat × BH) → List (Option BH)
 | [] => []
 | (_, k) :: ps => some (k.ren f) :: bc f ps
theorem W7 {f : Nat → Nat} {env : Nat → Option D} : ∀ {el : List (Nat × D)}, Z1 env el = ah f el → Up f env el
 | [], _ => trivial
 | (s, d) :: el, h => by
  simp only [Z1, ah] at h
  obtain ⟨h1, h2⟩ := List.cons.inj h
  exact ⟨h1, W7 h2⟩
theorem Ww {f : Nat → Nat} {bx : Nat → Option BH} : ∀ {el : List (Nat × BH)}, bF f bx el = bc f el → Ue f bx el
 | [], _ => trivial
 | (s, d) :: el, h => by
  simp only [bF, bc] at h
  obtain ⟨h1, h2⟩ := List.cons.inj h
  exact ⟨h1, Ww h2⟩
theorem sm {st : St} (l : List (Nat × Nat)) (el : List (Nat × D)) (bl : List (Nat × BH)) (h : (Z1 st.env el, bF (rn l) st.bx bl) = (ah (rn l) el, bc (rn l) bl)) (hi : ((Iv ((FN bl).map (rn l)) && Nc (rn l) (FN bl)) && (PW (FN bl) el && Qh (FN bl) bl)) = true) : Gq P X st (mk el bl) :=
 VT (rn l) el bl (W7 (t2 h).1) (Ww (t2 h).2) (zH0.1 hi).1 (zH0.1 hi).2
section run
variable {dr : Bool} {Q : St → Prop} {r i : Nat} {st : St} {log : List (Nat × CM)} {gs : List (Operand × D)}
theorem qm {x : Operand} {d : D} {s : Nat} (h : (hd st.env ops i X.n, opd st.env x) = (some (.move x, s, gs), some d)) (next : Nx P X ops dr Q r i st log ⟨gs ++ [(x, d)], [], some s, some d, [], []⟩) : A8 P X ops dr Q (r + 1) i st log :=
 Y5 (DP (t2 h).1) (t2 h).2 next
theorem qa {x : Operand} {d : D} {s : Nat} (h : (hd st.env ops i X.n, opd st.env x) = (some (.assign x, s, gs), some d)) (next : Nx P X ops dr Q r i st log ⟨gs ++ [(x, d)], [], some s, some d, [], []⟩) : A8 P X ops dr Q (r + 1) i st log :=
 Wg (DP (t2 h).1) (t2 h).2 next
theorem qn {j t s : Nat} {want : Bool} (h : (YZ ops i X.n, st.env t) = (some (j, s, t, want), some (bD (!want)))) (next : Nx P X ops dr Q r i st log ⟨[(.tmp t, bD (!want))], [], some s, some uD, [], []⟩) : A8 P X ops dr Q (r + 1) i st log :=
 Y4 (t2 h).1 (t2 h).2 next
theorem qu {j t s : Nat} {want : Bool} (h : (YZ ops i X.n, st.env t) = (some (j, s, t, want), some uD)) (next : Nx P X ops dr Q r i st log ⟨[(.tmp t, uD)], [], some s, some uD, [], []⟩) : A8 P X ops dr Q (r + 1) i st log :=
 Zc (t2 h).1 (t2 h).2 next
theorem qp {c x y : Operand} {b : Bool} {d : D} {z : Operand} {s : Nat} (h : (hd st.env ops i X.n, opd st.env c, (if b then x else y), opd st.env z) = (some (.pick c x y, s, gs), some (bD b), z, some d)) (next : Nx P X ops dr Q r i st log ⟨gs ++ [(c, bD b), (z, d)], [], some s, some d, [], []⟩) : A8 P X ops dr Q (r + 1) i st log :=
 Y9 (DP (t2 h).1) (t2 (t2 h).2).1 (t2 (t2 (t2 h).2).2).1 (t2 (t2 (t2 h).2).2).2 next
theorem qf {x : Operand} {b k f off s : Nat} {t : TypeId} (hf : CX P t f off = true) (h : (hd st.env ops i X.n, opd st.env x) = (some (.fieldAddr t x f, s, gs), some (.e (.one (.ptr b k))))) (next : Nx P X ops dr Q r i st log ⟨gs ++ [(x, .e (.one (.ptr b k)))], [], some s, some (.e (.one (.ptr b (k + off)))), [], []⟩) : A8 P X ops dr Q (r + 1) i st log :=
 SJ (DP (t2 h).1) (t2 h).2 hf next
theorem qg {x : Operand} {ts us : List T} {f off s : Nat} {t : TypeId} (hf : CX P t f off = true) (h : (hd st.env ops i X.n, opd st.env x, zG8 (off) (ts.length), ts.drop off) = (some (.fieldAddr t x f, s, gs), some (.e (.one (.rop ts))), true, us)) (next : Nx P X ops dr Q r i st log ⟨gs ++ [(x, .e (.one (.rop ts)))], [], some s, some (.e (.one (.rop us))), [], []⟩) : A8 P X ops dr Q (r + 1) i st log :=
 QU (DP (t2 h).1) (t2 (t2 h).2).1 hf (zC8 (t2 (t2 (t2 h).2).2).1) (t2 (t2 (t2 h).2).2).2 next
theorem qh {x : Operand} {b e ix k f off s : Nat} {t : TypeId} (hf : CX P t f off = true) (h : (hd st.env ops i X.n, opd st.env x) = (some (.fieldAddr t x f, s, gs), some (.e (.one (.eptr b e ix k))))) (next : Nx P X ops dr Q r i st log ⟨gs ++ [(x, .e (.one (.eptr b e ix k)))], [], some s, some (.e (.one (.eptr b e ix (k + off)))), [], []⟩) : A8 P X ops dr Q (r + 1) i st log :=
 QQ (DP (t2 h).1) (t2 h).2 hf next
theorem ql {x : Operand} {b k s : Nat} {cells : List C} {c : C} {t : TypeId} (ht : Fp P t false = true) (h : (hd st.env ops i X.n, opd st.env x, st.bx b, cells[k]?) = (some (.load t x, s, gs), some (.e (.one (.ptr b k))), some (.box cells), some c)) (next : Nx P X ops dr Q r i st log ⟨gs ++ [(x, .e (.one (.ptr b k)))], [(b, .box cells)], some s, some (.e (.one c)), [], []⟩) : A8 P X ops dr Q (r + 1) i st log :=
 Yi (DP (t2 h).1) (t2 (t2 h).2).1 ht (t2 (t2 (t2 h).2).2).1 (t2 (t2 (t2 h).2).2).2 next
theorem qL {x : Operand} {b k n s : Nat} {cells cs : List C} {t : TypeId} (ht : Fp P t true = true) (hz : HK P t n = true) (h : (hd st.env ops i X.n, opd st.env x, st.bx b, (cells.drop k).take n, cs.length) = (some (.load t x, s, gs), some (.e (.one (.ptr b k))), some (.box cells), cs, n)) (next : Nx P X ops dr Q r i st log ⟨gs ++ [(x, .e (.one (.ptr b k)))], [(b, .box cells)], some s, some (.e (.agg cs)), [], []⟩) : A8 P X ops dr Q (r + 1) i st log :=
 X4 (DP (t2 h).1) (t2 (t2 h).2).1 ht hz (t2 (t2 (t2 h).2).2).1 (t2 (t2 (t2 (t2 h).2).2).2).1 (t2 (t2 (t2 (t2 h).2).2).2).2 next
theorem qk {x : Operand} {s : Nat} {ts : List T} {u : T} {t : TypeId} (ht : Fp P t false = true) (h : (hd st.env ops i X.n, opd st.env x, ts[0]?) = (some (.load t x, s, gs), some (.e (.one (.rop ts))), some u)) (next : Nx P X ops dr Q r i st log ⟨gs ++ [(x, .e (.one (.rop ts)))], [], some s, some (one u), [], []⟩) : A8 P X ops dr Q (r + 1) i st log :=
 VI (DP (t2 h).1) (t2 (t2 h).2).1 ht (t2 (t2 h).2).2 next
theorem qK {x : Operand} {s n : Nat} {ts us : List T} {t : TypeId} (ht : Fp P t true = true) (hz : HK P t n = true) (h : (hd st.env ops i X.n, opd st.env x, ts.take n, us.length) = (some (.load t x, s, gs), some (.e (.one (.rop ts))), us, n)) (next : Nx P X ops dr Q r i st log ⟨gs ++ [(x, .e (.one (.rop ts)))], [], some s, some (.e (.agg (us.map C.pure))), [], []⟩) : A8 P X ops dr Q (r + 1) i st log :=
 VY (DP (t2 h).1) (t2 (t2 h).2).1 ht hz (t2 (t2 (t2 h).2).2).1 (t2 (t2 (t2 h).2).2).2 next
theorem qx {x : Operand} {xs : List E} {y : E} {k s : Nat} (h : (hd st.env ops i X.n, opd st.env x, xs[k]?) = (some (.extract x k, s, gs), some (.tup xs), some y)) (next : Nx P X ops dr Q r i st log ⟨gs ++ [(x, .tup xs)], [], some s, some (.e y), [], []⟩) : A8 P X ops dr Q (r + 1) i st log :=
 Vf (DP (t2 h).1) (t2 (t2 h).2).1 (t2 (t2 h).2).2 next
theorem qb {x : Operand} {y : E} {s : Nat} {el : TypeId} (h : (hd st.env ops i X.n, opd st.env x, st.bx s) = (some (.box el x, s, gs), some (.e y), none)) (next : Nx P X ops dr Q r i st log ⟨gs ++ [(x, .e y)], [], some s, some (.e (.one (.ptr s 0))), [(s, .box y.cells)], [s]⟩) : A8 P X ops dr Q (r + 1) i st log :=
 aC (DP (t2 h).1) (t2 (t2 h).2).1 (t2 (t2 h).2).2 next
theorem qz {z : Value} {zs : List Value} {s : Nat} {el : TypeId} (hz : EE P el = some z) (h : (hd st.env ops i X.n, z.cells.toList, zs.all G8, st.bx s) = (some (.alloc el, s, gs), zs, true, none)) (next : Nx P X ops dr Q r i st log ⟨gs ++ [], [], some s, some (.e (.one (.ptr s 0))), [(s, .box (zs.map fun v => C.pure (T.of v)))], [s]⟩) : A8 P X ops dr Q (r + 1) i st log :=
 XX (DP (t2 h).1) hz (t2 (t2 h).2).1 (t2 (t2 (t2 h).2).2).1 (t2 (t2 (t2 h).2).2).2 next
theorem qs {x y : Operand} {b k n : Nat} {cells cells' : List C} {v : E} {t : TypeId} (hz : HK P t n = true) (h : (S3 ops i, opd st.env x, opd st.env y, st.bx b, v.cells.length, zG8 (k + n) (cells.length), JS cells k v.cells) = (some (.store t x y), some (.e (.one (.ptr b k))), some (.e v), some (.box cells), n, true, cells')) (next : Nx P X ops dr Q r i st log ⟨[(x, .e (.one (.ptr b k))), (y, .e v)], [(b, .box cells)], none, none, [(b, .box cells')], []⟩) : A8 P X ops dr Q (r + 1) i st log :=
 Xl (t2 h).1 (t2 (t2 h).2).1 (t2 (t2 (t2 h).2).2).1 (t2 (t2 (t2 (t2 h).2).2).2).1 hz (t2 (t2 (t2 (t2 (t2 h).2).2).2).2).1 (zC8 (t2 (t2 (t2 (t2 (t2 (t2 h).2).2).2).2).2).1) (t2 (t2 (t2 (t2 (t2 (t2 h).2).2).2).2).2).2 next
theorem qi {x y : Operand} {s e : Nat} {rows : List (List T)} {row : List T} {t el : TypeId} {k : IntKind} {n : Int} (ht : sliceB P t el = true) (hz : HK P el e = true) (h0 : 0 ≤ n) (hrow : rows[n.toNat]? = some row) (h : (hd st.env ops i X.n, opd st.env x, opd st.env y, row.length) = (some (.indexAddr t x y, s, gs), some (one (.sl rows)), some (vD (.int k n)), e)) (next : Nx P X ops dr Q r i st log ⟨gs ++ [(x, one (.sl rows)), (y, vD (.int k n))], [], some s, some (.e (.one (.rop row))), [], []⟩) : A8 P X ops dr Q (r + 1) i st log :=
 XV (DP (t2 h).1) (t2 (t2 h).2).1 (t2 (t2 (t2 h).2).2).1 ht hz h0 hrow (t2 (t2 (t2 h).2).2).2 next
theorem qI {x y : Operand} {s e b : Nat} {rows : List (List T)} {row : List T} {t el : TypeId} {k : IntKind} {n : Int} (ht : sliceB P t el = true) (hz : HK P el e = true) (h0 : 0 ≤ n) (hrow : rows[n.toNat]? = some row) (h : (hd st.env ops i X.n, opd st.env x, opd st.env y, st.bx b) = (some (.indexAddr t x y, s, gs), some (.e (.one (.own b))), some (vD (.int k n)), some (.vec e rows))) (next : Nx P X ops dr Q r i st log ⟨gs ++ [(x, .e (.one (.own b))), (y, vD (.int k n))], [(b, .vec e rows)], some s, some (.e (.one (.eptr b e n.toNat 0))), [], []⟩) : A8 P X ops dr Q (r + 1) i st log :=
 V0 (DP (t2 h).1) (t2 (t2 h).2).1 (t2 (t2 (t2 h).2).2).1 (t2 (t2 (t2 h).2).2).2 ht hz h0 hrow next
theorem qj {x : Operand} {b e ix k s : Nat} {rows : List (List T)} {row : List T} {u : T} {t : TypeId} (ht : Fp P t false = true) (hrow : rows[ix]? = some row) (h : (hd st.env ops i X.n, opd st.env x, st.bx b, row[k]?) = (some (.load t x, s, gs), some (.e (.one (.eptr b e ix k))), some (.vec e rows), some u)) (next : Nx P X ops dr Q r i st log ⟨gs ++ [(x, .e (.one (.eptr b e ix k)))], [(b, .vec e rows)], some s, some (one u), [], []⟩) : A8 P X ops dr Q (r + 1) i st log :=
 W9 (DP (t2 h).1) (t2 (t2 h).2).1 ht (t2 (t2 (t2 h).2).2).1 hrow (t2 (t2 (t2 h).2).2).2 next
theorem qJ {x : Operand} {b e ix s : Nat} {rows : List (List T)} {row : List T} {t : TypeId} (ht : Fp P t true = true) (hz : HK P t e = true) (hrow : rows[ix]? = some row) (h : (hd st.env ops i X.n, opd st.env x, st.bx b) = (some (.load t x, s, gs), some (.e (.one (.eptr b e ix 0))), some (.vec e rows))) (next : Nx P X ops dr Q r i st log ⟨gs ++ [(x, .e (.one (.eptr b e ix 0)))], [(b, .vec e rows)], some s, some (.e (.agg (row.map C.pure))), [], []⟩) : A8 P X ops dr Q (r + 1) i st log :=
 MB (DP (t2 h).1) (t2 (t2 h).2).1 ht hz (t2 (t2 h).2).2 hrow next
theorem Xx {x : Operand} {s b k : Nat} (h : (hd st.env ops i X.n, opd st.env x) = (some (.nilCheck x, s, gs), some (.e (.one (.ptr b k))))) (next : Nx P X ops dr Q r i st log ⟨gs ++ [(x, .e (.one (.ptr b k)))], [], some s, some (.e (.one (.ptr b k))), [], []⟩) : A8 P X ops dr Q (r + 1) i st log :=
 Tw (DP (t2 h).1) (t2 h).2 next
theorem AZ {k : IntKind} {xt yt : TypeId} {x y : Operand} {a b : Int} {s : Nat} (h : (hd st.env ops i X.n, opd st.env x, opd st.env y) = (some (.binOp .add xt x y yt, s, gs), some (vD (.int k a)), some (vD (.int k b)))) (next : Nx P X ops dr Q r i st log ⟨gs ++ [(x, vD (.int k a)), (y, vD (.int k b))], [], some s, some (vD (.int k (k.wrap (a + b)))), [], []⟩) : A8 P X ops dr Q (r + 1) i st log :=
 IX (DP (t2 h).1) (t2 (t2 h).2).1 (t2 (t2 h).2).2 (Xy _ _ _ _ _ _) rfl next
theorem Qa {k : IntKind} {xt yt : TypeId} {x y : Operand} {a b : Int} {s : Nat} (h : (hd st.env ops i X.n, opd st.env x, opd st.env y) = (some (.binOp .sub xt x y yt, s, gs), some (vD (.int k a)), some (vD (.int k b)))) (next : Nx P X ops dr Q r i st log ⟨gs ++ [(x, vD (.int k a)), (y, vD (.int k b))], [], some s, some (vD (.int k (k.wrap (a - b)))), [], []⟩) : A8 P X ops dr Q (r + 1) i st log :=
 IX (DP (t2 h).1) (t2 (t2 h).2).1 (t2 (t2 h).2).2 (X2 _ _ _ _ _ _) rfl next
theorem NJ {k : IntKind} {xt yt : TypeId} {x y : Operand} {a b : Int} {s : Nat} (h : (hd st.env ops i X.n, opd st.env x, opd st.env y) = (some (.binOp .mul xt x y yt, s, gs), some (vD (.int k a)), some (vD (.int k b)))) (next : Nx P X ops dr Q r i st log ⟨gs ++ [(x, vD (.int k a)), (y, vD (.int k b))], [], some s, some (vD (.int k (k.wrap (a * b)))), [], []⟩) : A8 P X ops dr Q (r + 1) i st log :=
 IX (DP (t2 h).1) (t2 (t2 h).2).1 (t2 (t2 h).2).2 (Xr _ _ _ _ _ _) rfl next
theorem BX {k : IntKind} {xt yt : TypeId} {x y : Operand} {a b : Int} {s : Nat} (h : (hd st.env ops i X.n, opd st.env x, opd st.env y) = (some (.binOp .eql xt x y yt, s, gs), some (vD (.int k a)), some (vD (.int k b)))) (next : Nx P X ops dr Q r i st log ⟨gs ++ [(x, vD (.int k a)), (y, vD (.int k b))], [], some s, some (vD (.bool (a == b))), [], []⟩) : A8 P X ops dr Q (r + 1) i st log :=
 IX (DP (t2 h).1) (t2 (t2 h).2).1 (t2 (t2 h).2).2 (XH _ _ _ _ _ _) rfl next
theorem BZ {k : IntKind} {xt yt : TypeId} {x y : Operand} {a b : Int} {s : Nat} (h : (hd st.env ops i X.n, opd st.env x, opd st.env y) = (some (.binOp .neq xt x y yt, s, gs), some (vD (.int k a)), some (vD (.int k b)))) (next : Nx P X ops dr Q r i st log ⟨gs ++ [(x, vD (.int k a)), (y, vD (.int k b))], [], some s, some (vD (.bool (a != b))), [], []⟩) : A8 P X ops dr Q (r + 1) i st log :=
 IX (DP (t2 h).1) (t2 (t2 h).2).1 (t2 (t2 h).2).2 (Xo _ _ _ _ _ _) rfl next
theorem AT {k : IntKind} {xt yt : TypeId} {x y : Operand} {a b : Int} {s : Nat} (h : (hd st.env ops i X.n, opd st.env x, opd st.env y) = (some (.binOp .lss xt x y yt, s, gs), some (vD (.int k a)), some (vD (.int k b)))) (next : Nx P X ops dr Q r i st log ⟨gs ++ [(x, vD (.int k a)), (y, vD (.int k b))], [], some s, some (vD (.bool (decide (a < b)))), [], []⟩) : A8 P X ops dr Q (r + 1) i st log :=
 IX (DP (t2 h).1) (t2 (t2 h).2).1 (t2 (t2 h).2).2 (XY _ _ _ _ _ _) rfl next
theorem Yv {k : IntKind} {xt yt : TypeId} {x y : Operand} {a b : Int} {s : Nat} (h : (hd st.env ops i X.n, opd st.env x, opd st.env y) = (some (.binOp .leq xt x y yt, s, gs), some (vD (.int k a)), some (vD (.int k b)))) (next : Nx P X ops dr Q r i st log ⟨gs ++ [(x, vD (.int k a)), (y, vD (.int k b))], [], some s, some (vD (.bool (decide (a ≤ b)))), [], []⟩) : A8 P X ops dr Q (r + 1) i st log :=
 IX (DP (t2 h).1) (t2 (t2 h).2).1 (t2 (t2 h).2).2 (X0 _ _ _ _ _ _) rfl next
theorem Gt {k : IntKind} {xt yt : TypeId} {x y : Operand} {a b : Int} {s : Nat} (h : (hd st.env ops i X.n, opd st.env x, opd st.env y) = (some (.binOp .gtr xt x y yt, s, gs), some (vD (.int k a)), some (vD (.int k b)))) (next : Nx P X ops dr Q r i st log ⟨gs ++ [(x, vD (.int k a)), (y, vD (.int k b))], [], some s, some (vD (.bool (decide (b < a)))), [], []⟩) : A8 P X ops dr Q (r + 1) i st log :=
 IX (DP (t2 h).1) (t2 (t2 h).2).1 (t2 (t2 h).2).2 (XO _ _ _ _ _ _) rfl next
theorem ET {k : IntKind} {xt yt : TypeId} {x y : Operand} {a b : Int} {s : Nat} (h : (hd st.env ops i X.n, opd st.env x, opd st.env y) = (some (.binOp .geq xt x y yt, s, gs), some (vD (.int k a)), some (vD (.int k b)))) (next : Nx P X ops dr Q r i st log ⟨gs ++ [(x, vD (.int k a)), (y, vD (.int k b))], [], some s, some (vD (.bool (decide (b ≤ a)))), [], []⟩) : A8 P X ops dr Q (r + 1) i st log :=
 IX (DP (t2 h).1) (t2 (t2 h).2).1 (t2 (t2 h).2).2 (X9 _ _ _ _ _ _) rfl next
theorem NH {k : IntKind} {xt yt : TypeId} {x y : Operand} {a b : Int} {s : Nat} (h : (hd st.env ops i X.n, opd st.env x, opd st.env y) = (some (.binOp .and xt x y yt, s, gs), some (vD (.int k a)), some (vD (.int k b)))) (next : Nx P X ops dr Q r i st log ⟨gs ++ [(x, vD (.int k a)), (y, vD (.int k b))], [], some s, some (vD (.int k (GP k a b))), [], []⟩) : A8 P X ops dr Q (r + 1) i st log :=
 IX (DP (t2 h).1) (t2 (t2 h).2).1 (t2 (t2 h).2).2 (XT _ _ _ _ _ _) rfl next
theorem WB {k : IntKind} {xt yt : TypeId} {x y : Operand} {a b : Int} {s : Nat} (h : (hd st.env ops i X.n, opd st.env x, opd st.env y) = (some (.binOp .or xt x y yt, s, gs), some (vD (.int k a)), some (vD (.int k b)))) (next : Nx P X ops dr Q r i st log ⟨gs ++ [(x, vD (.int k a)), (y, vD (.int k b))], [], some s, some (vD (.int k (Pw k a b))), [], []⟩) : A8 P X ops dr Q (r + 1) i st log :=
 IX (DP (t2 h).1) (t2 (t2 h).2).1 (t2 (t2 h).2).2 (ZL _ _ _ _ _ _) rfl next
theorem Jf {k : IntKind} {xt yt : TypeId} {x y : Operand} {a b : Int} {s : Nat} (h : (hd st.env ops i X.n, opd st.env x, opd st.env y) = (some (.binOp .andNot xt x y yt, s, gs), some (vD (.int k a)), some (vD (.int k b)))) (next : Nx P X ops dr Q r i st log ⟨gs ++ [(x, vD (.int k a)), (y, vD (.int k b))], [], some s, some (vD (.int k (DC k a b))), [], []⟩) : A8 P X ops dr Q (r + 1) i st log :=
 IX (DP (t2 h).1) (t2 (t2 h).2).1 (t2 (t2 h).2).2 (Tz _ _ _ _ _ _) rfl next
theorem Jq {k k' : IntKind} {xt yt : TypeId} {x y : Operand} {a b : Int} {s : Nat} (h : (hd st.env ops i X.n, opd st.env x, opd st.env y) = (some (.binOp .shl xt x y yt, s, gs), some (vD (.int k a)), some (vD (.int k' b)))) (hc : 0 ≤ b) (next : Nx P X ops dr Q r i st log ⟨gs ++ [(x, vD (.int k a)), (y, vD (.int k' b))], [], some s, some (vD (.int k (Ee k a b))), [], []⟩) : A8 P X ops dr Q (r + 1) i st log :=
 IX (DP (t2 h).1) (t2 (t2 h).2).1 (t2 (t2 h).2).2 (XR _ _ _ _ _ _ _ hc) rfl next
theorem Jv {k k' : IntKind} {xt yt : TypeId} {x y : Operand} {a b : Int} {s : Nat} (h : (hd st.env ops i X.n, opd st.env x, opd st.env y) = (some (.binOp .shr xt x y yt, s, gs), some (vD (.int k a)), some (vD (.int k' b)))) (hc : 0 ≤ b) (next : Nx P X ops dr Q r i st log ⟨gs ++ [(x, vD (.int k a)), (y, vD (.int k' b))], [], some s, some (vD (.int k (FI k a b))), [], []⟩) : A8 P X ops dr Q (r + 1) i st log :=
 IX (DP (t2 h).1) (t2 (t2 h).2).1 (t2 (t2 h).2).2 (Xm _ _ _ _ _ _ _ hc) rfl next
theorem MS {k : IntKind} {xt yt : TypeId} {x y : Operand} {a b : Int} {s : Nat} (h : (hd st.env ops i X.n, opd st.env x, opd st.env y) = (some (.binOp .rem xt x y yt, s, gs), some (vD (.int k a)), some (vD (.int k b)))) (hc : b ≠ 0) (next : Nx P X ops dr Q r i st log ⟨gs ++ [(x, vD (.int k a)), (y, vD (.int k b))], [], some s, some (vD (.int k (a.tmod b))), [], []⟩) : A8 P X ops dr Q (r + 1) i st log :=
 IX (DP (t2 h).1) (t2 (t2 h).2).1 (t2 (t2 h).2).2 (Ya _ _ _ _ _ _ hc) rfl next
theorem CF {xt : TypeId} {x : Operand} {b : Bool} {s : Nat} (h : (hd st.env ops i X.n, opd st.env x) = (some (.unOp .not xt x, s, gs), some (bD b))) (next : Nx P X ops dr Q r i st log ⟨gs ++ [(x, bD b)], [], some s, some (vD (.bool (!b))), [], []⟩) : A8 P X ops dr Q (r + 1) i st log :=
 cO (DP (t2 h).1) (t2 h).2 (Y0 _) rfl next
theorem Jk {xt yt : TypeId} {k k' : IntKind} {x : Operand} {a : Int} {s : Nat} (hs : (P.underlying xt).isSome = true) (ht : PJ P yt k = true) (h : (hd st.env ops i X.n, opd st.env x) = (some (.convert xt yt x, s, gs), some (vD (.int k' a)))) (next : Nx P X ops dr Q r i st log ⟨gs ++ [(x, vD (.int k' a))], [], some s, some (vD (.int k (k.wrap a))), [], []⟩) : A8 P X ops dr Q (r + 1) i st log :=
 Zi (DP (t2 h).1) (t2 h).2 (Wh hs ht _ _) rfl next
theorem AJ {α : Type} {f : α → List T} {xs : List α} {x : Operand} {s : Nat} {t el : TypeId} (ht : sliceB P t el = true) (h : (hd st.env ops i X.n, opd st.env x) = (some (.call ⟨.builtin .len, #[x], #[t]⟩, s, gs), some (one (.sl (xs.map f))))) (next : Nx P X ops dr Q r i st log ⟨gs ++ [(x, one (.sl (xs.map f)))], [], some s, some (vD (.int .i64 (xs.length : Int))), [], []⟩) : A8 P X ops dr Q (r + 1) i st log :=
 YB (DP (t2 h).1) (t2 h).2 (.sl _) trivial (zC2 _) ht next
theorem DQ {α : Type} {f : α → List T} {xs : List α} {x : Operand} {s b e : Nat} {t el : TypeId} (ht : sliceB P t el = true) (h : (hd st.env ops i X.n, opd st.env x, st.bx b) = (some (.call ⟨.builtin .len, #[x], #[t]⟩, s, gs), some (.e (.one (.own b))), some (.vec e (xs.map f)))) (next : Nx P X ops dr Q r i st log ⟨gs ++ [(x, .e (.one (.own b)))], [(b, .vec e (xs.map f))], some s, some (vD (.int .i64 (xs.length : Int))), [], []⟩) : A8 P X ops dr Q (r + 1) i st log :=
 YB (DP (t2 h).1) (t2 (t2 h).2).1 (.own _ _ _) ⟨(t2 (t2 h).2).2, trivial⟩ (zC2 _) ht next
theorem A9 {t : TypeId} {s : Nat} {z : Value} {zs : List Value} {pl : List (Nat × Nat)} {cells : List C} {parts : Array (Nat × Operand)} {ps : List (Nat × Operand × E)} (hz : EE P t = some z) (hpl : IL P t = some pl) (h : (hd st.env ops i X.n, ZV st.env parts.toList, z.cells.toList, zs.all G8, Mk (pl[·]?) (zs.map fun v => C.pure (T.of v)) (ps.map fun p => (p.1, p.2.2))) = (some (.build t parts, s, gs), some ps, zs, true, some cells)) (next : Nx P X ops dr Q r i st log ⟨gs ++ Jh ps, [], some s, some (.e (.agg cells)), [], []⟩) : A8 P X ops dr Q (r + 1) i st log :=
 have q := VL (t2 (t2 h).2).1
 XP ps (DP (t2 h).1) (by rw [← q.1]) q.2 hz (t2 (t2 (t2 h).2).2).1 (t2 (t2 (t2 (t2 h).2).2).2).1 hpl (t2 (t2 (t2 (t2 h).2).2).2).2 next
theorem DI {t el : TypeId} {s n e : Nat} {z : Value} {rows : List (List T)} {parts : Array (Nat × Operand)} {ps : List (Nat × Operand × E)} (ht : sliceB P t el = true) (he : HK P el e = true) (hz : EE P el = some z) (h : (hd st.env ops i X.n, ZV st.env parts.toList, st.bx s, Yn 0 ps, ps.length, zG8 (n * e) 16777216, (ps.map fun p => (p.1, p.2.2)).mapM (fun p => p.2.ts), rows.all (fun row => row.length == e)) = (some (.buildSlice t n parts, s, gs), some ps, none, true, n, true, some rows, true)) (next : Nx P X ops dr Q r i st log ⟨gs ++ Jh ps, [], some s, some (.e (.one (.own s))), [(s, .vec e rows)], [s]⟩) : A8 P X ops dr Q (r + 1) i st log :=
 have q := VL (t2 (t2 h).2).1
 have g := (t2 (t2 (t2 h).2).2).2
 QK ps (DP (t2 h).1) (by rw [← q.1]) q.2 (t2 (t2 (t2 h).2).2).1 ht he hz (Uh (t2 g).1) (t2 (t2 g).2).1 (zC8 (t2 (t2 (t2 g).2).2).1) (t2 (t2 (t2 (t2 g).2).2).2).1 (t2 (t2 (t2 (t2 g).2).2).2).2 next
theorem Ay {f s : Nat} {xs : List Operand} {ds0 ds : List D} {rv : List (Nat × List (List T))} {res : D} {ts : Array TypeId} (ns : List Nat) (hc : Av P f ds rv res) (hf : AG P f = true) (h : (hd st.env ops i X.n, WY st.env xs, ds0.map D.nrm, ds.all Sn, ns.length, Iv ns && (ns.all fun n => !Bt n), ns.all (fun n => ct (st.bx n)), res.names.all (fun b => decide (b < rv.length))) = (some (.call ⟨.value (.func f), xs.toArray, ts⟩, s, gs), some ds0, ds, true, rv.length, true, true, true)) (next : Nx P X ops dr Q r i st log ⟨gs ++ H4 xs ds0, [], some s, some (res.ren (nm ns)), Jm ns rv, ns⟩) : A8 P X ops dr Q (r + 1) i st log :=
 have q := Rs (t2 (t2 h).2).1
 have g := (t2 (t2 (t2 h).2).2).2
 Zm ns hc (DP (t2 h).1) hf q.1 q.2 (t2 (t2 (t2 h).2).2).1 (t2 g).1 (t2 (t2 g).2).1 (PV (t2 (t2 (t2 g).2).2).1) (Rk (t2 (t2 (t2 (t2 g).2).2).2).1) (t2 (t2 (t2 (t2 g).2).2).2).2 next
theorem Dl {f s : Nat} {xs : List Operand} {ds0 ds : List D} {rv : List (Nat × List (List T))} {res : D} {ts : Array TypeId} {bs : List (Nat × BH)} (ns lb : List Nat) (hc : Av P f ds rv res) (hf : AG P f = true) (hfv : Sl rv) (h : (hd st.env ops i X.n, WY st.env xs, bM st.bx lb, ds0.map (fun d => (d.lend bs).nrm), ds.all Sn, ns.length, Iv ns && (ns.all fun n => !Bt n), ns.all (fun n => ct (st.bx n)), res.flat, res.names.all (fun b => decide (b < rv.length))) = (some (.call ⟨.value (.func f), xs.toArray, ts⟩, s, gs), some ds0, some bs, ds, true, rv.length, true, true, true, true)) (next : Nx P X ops dr Q r i st log ⟨gs ++ H4 xs ds0, bs, some s, some (res.ren (nm ns)), Jm ns rv, ns⟩) : A8 P X ops dr Q (r + 1) i st log :=
 have q := Rs (t2 (t2 h).2).1
 have g := (t2 (t2 (t2 h).2).2).2
 have g2 := (t2 (t2 (t2 g).2).2).2
 Yk ns bs hc (DP (t2 h).1) hf q.1 q.2 (Wn (t2 (t2 (t2 h).2).2).1) (t2 g).1 (t2 (t2 g).2).1 (t2 (t2 (t2 g).2).2).1 (PV (t2 g2).1) (Rk (t2 (t2 g2).2).1) (t2 (t2 (t2 g2).2).2).1 hfv (t2 (t2 (t2 g2).2).2).2 next
theorem DH {α : Type} {f : α → List T} {xs : List α} {ys : List α} {x y : Operand} {t t2' el el2 s e bytes b b2 : Nat} {z : Value} (ht : sliceB P t el = true) (ht2 : sliceB P t2' el2 = true) (he : HK P el e = true) (hby : F0 P el bytes = true) (hz : EE P el = some z) (hlim : xs.length + ys.length ≤ Dw) (h : (hd st.env ops i X.n, opd st.env x, st.bx b, opd st.env y, st.bx b2, st.bx s, z.cells.size, zG8 bytes 4096, [b].all (fun b => !Bt b)) = (some (.call ⟨.builtin .append, #[x, y], #[t, t2']⟩, s, gs), some (.e (.one (.own b))), some (.vec e (xs.map f)), some (.e (.one (.own b2))), some (.vec e (ys.map f)), none, e, true, true)) (next : Nx P X ops dr Q r i st log ⟨gs ++ [(x, .e (.one (.own b))), (y, .e (.one (.own b2)))], [(b, .vec e (xs.map f))] ++ [(b2, .vec e (ys.map f))], some s, some (.e (.one (.own s))), (s, .vec e ((xs ++ ys).map f)) :: GA [b], [s]⟩) : A8 P X ops dr Q (r + 1) i st log :=
 RM (DP (t2 h).1) (t2 (t2 h).2).1 (.own _ _ _) ⟨(t2 (t2 (t2 h).2).2).1, trivial⟩ (t2 (t2 (t2 (t2 h).2).2).2).1 (.own _ _ _) ⟨(t2 (t2 (t2 (t2 (t2 h).2).2).2).2).1, trivial⟩ (t2 (t2 (t2 (t2 (t2 (t2 h).2).2).2).2).2).1 ht ht2 he hby (zC8 (t2 (t2 (t2 (t2 (t2 (t2 (t2 (t2 h).2).2).2).2).2).2).2).1) hz (t2 (t2 (t2 (t2 (t2 (t2 (t2 h).2).2).2).2).2).2).1 (by simpa using hlim) (by simp) (t2 (t2 (t2 (t2 (t2 (t2 (t2 (t2 h).2).2).2).2).2).2).2).2 next
theorem HC {α : Type} {f : α → List T} {xs : List α} {ys : List α} {x y : Operand} {t t2' el el2 s e bytes b : Nat} {z : Value} (ht : sliceB P t el = true) (ht2 : sliceB P t2' el2 = true) (he : HK P el e = true) (hby : F0 P el bytes = true) (hz : EE P el = some z) (hf : ∀ x, (f x).length = e) (hlim : xs.length + ys.length ≤ Dw) (h : (hd st.env ops i X.n, opd st.env x, st.bx b, opd st.env y, st.bx s, z.cells.size, zG8 bytes 4096, [b].all (fun b => !Bt b)) = (some (.call ⟨.builtin .append, #[x, y], #[t, t2']⟩, s, gs), some (.e (.one (.own b))), some (.vec e (xs.map f)), some (one (.sl (ys.map f))), none, e, true, true)) (next : Nx P X ops dr Q r i st log ⟨gs ++ [(x, .e (.one (.own b))), (y, one (.sl (ys.map f)))], [(b, .vec e (xs.map f))] ++ [], some s, some (.e (.one (.own s))), (s, .vec e ((xs ++ ys).map f)) :: GA [b], [s]⟩) : A8 P X ops dr Q (r + 1) i st log :=
 RM (DP (t2 h).1) (t2 (t2 h).2).1 (.own _ _ _) ⟨(t2 (t2 (t2 h).2).2).1, trivial⟩ (t2 (t2 (t2 (t2 h).2).2).2).1 (.sl _ _ (MT hf _)) trivial (t2 (t2 (t2 (t2 (t2 h).2).2).2).2).1 ht ht2 he hby (zC8 (t2 (t2 (t2 (t2 (t2 (t2 (t2 h).2).2).2).2).2).2).1) hz (t2 (t2 (t2 (t2 (t2 (t2 h).2).2).2).2).2).1 (by simpa using hlim) (by simp) (t2 (t2 (t2 (t2 (t2 (t2 (t2 h).2).2).2).2).2).2).2 next
end run
end Go.Lift
namespace Go.Lift
open Go.RowKit
variable {P : Program}
def bf (P : Program) : List D → List D → Prop
 | [], [] => True
 | a :: ar, b :: bs => (∀ (w : World) (G : Gh) (v : Value), Hj P w G v a → Hj P w G v b) ∧ bf P ar bs
 | _, _ => False
theorem bf.get : ∀ {ar bs : List D}, bf P ar bs → ar.length = bs.length ∧ ∀ (j : Nat) (b : D), bs[j]? = some b → ∃ a, ar[j]? = some a ∧ ∀ (w : World) (G : Gh) (v : Value), Hj P w G v a → Hj P w G v b
 | [], [], _ => ⟨rfl, fun j b h => by simp at h⟩
 | a :: ar, b :: bs, h => by
  obtain ⟨h1, h2⟩ := bf.get h.2
  refine ⟨by simp [h1], fun j c hj => ?_⟩
  cases j with
  | zero => simp at hj; subst hj; exact ⟨a, rfl, h.1⟩
  | succ j => obtain ⟨a', g1, g2⟩ := h2 j c (by simpa using hj); exact ⟨a', by simpa using g1, g2⟩
theorem Dy.weak {f : FuncId} {ds ds' : List D} {lent : List (BH × BH)} {rv : List BH} {res : D} (h : Dy P f ds lent rv res) (hp : bf P ds' ds) : Dy P f ds' lent rv res := by
 intro w G vs h1 hgk h2 h3 h4 hlen hargs
 obtain ⟨g1, g2⟩ := hp.get
 refine h w G vs h1 hgk h2 h3 h4 (by rw [hlen, g1]) fun j d hj => ?_
 obtain ⟨a, e1, e2⟩ := g2 j d hj
 exact e2 w G _ (hargs j a e1)
theorem RV {f : FuncId} {g : List (Bool × List T) → Option T} (hf : AG P f = true) (hclo : ∀ ar t, g ar = some t → Av P f (ar.map QN) [] (one t)) {w : World} {G : Gh} {v : Value} (h : Hj P w G v (.e (.one (.fnc f)))) : Hj P w G v (.e (.one (.clo g))) :=
 Re (S := G.S) hf hclo h
end Go.Lift
namespace Go.Lift
open Go.RowKit
variable {P : Program} {X : Im} {ops : Array Oper}
theorem J3 {α : Type} {xs : List α} {lo len i : Nat} {x : α} (h : ((xs.drop lo).take len)[i]? = some x) : i < len ∧ xs[lo + i]? = some x := by
 rw [List.getElem?_take] at h
 split at h
 ·rename_i h1; rw [zD5] at h; exact ⟨h1, h⟩
 ·cases h
section run
variable {dr : Bool} {Q : St → Prop} {r i : Nat} {st : St} {log : List (Nat × CM)} {gs : List (Operand × D)}
theorem MZ {α : Type} (f : α → List T) (xs : List α) {x y : Operand} {s e b lo len q : Nat} {t el : TypeId} {k : IntKind} {n : Int} (hat : At st.env ops i X.n (.indexAddr t x y) s gs)
  (hx : opd st.env x = some (.e (.one (.view b e lo len)))) (hle : lo + len ≤ xs.length) (hy : opd st.env y = some (vD (.int k n))) (hb : st.bx b = some (.vec e (xs.map f))) (ht : sliceB P t el = true) (hz : HK P el e = true) (h0 : 0 ≤ n) (hn1 : n.toNat < len) (hq : lo + n.toNat = q)
  (next : Nx P X ops dr Q r i st log ⟨gs ++ [(x, .e (.one (.view b e lo len))), (y, vD (.int k n))], [(b, .vec e (xs.map f))], some s, some (.e (.one (.eptr b e q 0))), [], []⟩) : A8 P X ops dr Q (r + 1) i st log := by
 subst hq
 exact VN (_row := []) hat hx (by simpa using hle) hy hb ht hz h0 hn1 next
end run
end Go.Lift
namespace Go.Lift
abbrev iC (x : Int) : C := .pure (.val (.int .i64 x))
abbrev sC (l : List (List T)) : C := .pure (.sl l)
abbrev iD (x : Int) : D := .e (.one (.pure (.val (.int .i64 x))))
abbrev pD (t : T) : D := .e (.one (.pure t))
abbrev oD (c : C) : D := .e (.one c)
theorem tv : True := trivial
end Go.Lift
namespace Go.Lift
open Go.RowKit
variable {P : Program} {X : Im} {ops : Array Oper}
section run
variable {dr : Bool} {Q : St → Prop} {r i : Nat} {st : St} {log : List (Nat × CM)} {o : Oper} {gs : List (Operand × D)}
end run
end Go.Lift
namespace Go.Lift
open Go.RowKit
variable {P : Program} {X : Im} {ops : Array Oper}
def nt (b : Nat) (ns : List Nat) (c : Nat) : Nat := if c = 90900 then b else ns.getD c 0
section run
variable {dr : Bool} {Q : St → Prop} {r i : Nat} {st : St} {log : List (Nat × CM)} {o : Oper} {gs : List (Operand × D)}
end run
end Go.Lift
namespace Go.Lift
open Go.RowKit
variable {P : Program} {X : Im} {ops : Array Oper}
end Go.Lift
namespace Go.Lift
open Go.RowKit
variable {P : Program} {X : Im} {ops : Array Oper}
section run
variable {dr : Bool} {Q : St → Prop} {r i : Nat} {st : St} {log : List (Nat × CM)} {o : Oper} {gs : List (Operand × D)}
end run
end Go.Lift
namespace Go.Lift
open Go.RowKit
variable {P : Program} {X : Im} {ops : Array Oper}
theorem Li {st : St} (b s ix k : Nat) {e e2 : Nat} {cols cols2 : List Ow} {rows rows2 : List (List T)} {row : List T} (hb : st.bx b = some (.dvec e cols rows)) (hrow : rows[ix]? = some row) (hc : row[k]? = some (.sl rows2)) (hcol : cols.getD k .s = .x e2 cols2) (hbl : Bt b = false) (hsl : Bt s = false) (hnew : st.bx s = none) :
  Gq P X st ⟨st.env, Bj st.bx [(b, .hol e cols ix k s rows), (s, inner e2 cols2 rows2)]⟩ := by
 rintro a w ⟨G, hs⟩
 have hsb : s ≠ b := fun e => by rw [e, hb] at hnew; cases hnew
 obtain ⟨β, cap, arr, el, Rf, hβ, h1, h2, h3, h4, h5, h6, h7, h8, h9, h10⟩ := XI (hs.blk b _ hb) hrow
 have hre := h5 ix row hrow
 have hk := AC hc
 have hcell := h6 ix row k _ hrow hc
 rw [hcol] at hcell
 obtain ⟨l, m, g1, g2, g3⟩ := W4 (P := P) hcell
 let G' : Gh := { S := G.S, loc := fun c => if c = s then l else G.loc c, hd := fun c => if c = s then Aw arr (ix * e + k) else G.hd c, more := fun c => if c = s then m else if c = b then (fun γ => G.more b γ ∧ ¬ Rf ix k γ) else G.more c }
 have hsome : ∀ c, (st.bx c).isSome = true → c ≠ s := fun c hc e => by rw [e, hnew] at hc; cases hc
 have hbx : ∀ c, Bj st.bx [(b, .hol e cols ix k s rows), (s, inner e2 cols2 rows2)] c = if c = b then some (.hol e cols ix k s rows) else if c = s then some (inner e2 cols2 rows2) else st.bx c := fun c => rfl
 have hasS : ∀ γ, G'.has s γ → Rf ix k γ := fun γ h => by
  unfold Gh.has at h
  simp only [G', if_true] at h
  exact g1 γ h
 have hasB : ∀ γ, G'.has b γ → G.has b γ ∧ ¬ Rf ix k γ := fun γ h => by
  unfold Gh.has at h
  simp only [G', if_neg hsb.symm, if_true] at h
  rcases h with h | h
  ·refine ⟨.inl h, fun hr => ?_⟩
   rw [hβ] at h; cases h
   exact h8 ix k hr
  ·exact ⟨.inr h.1, h.2⟩
 have hasO : ∀ c γ, c ≠ s → c ≠ b → (G'.has c γ ↔ G.has c γ) := fun c γ h1 h2 => by
  unfold Gh.has
  simp only [G', if_neg h1, if_neg h2]
 have hbl2 := hsl
 have key : C5 P X G' ⟨st.env, Bj st.bx [(b, .hol e cols ix k s rows), (s, inner e2 cols2 rows2)]⟩ a w := by
  refine hs.frame2 ?_ (fun _ h => h) (fun c hc => by simp only [G']; rw [if_neg (hsome c hc)]) (fun c hc => by simp only [G']; rw [if_neg (hsome c hc)]) (fun _ _ => rfl) ?_ ?_ ?_ hs.S_lt hs.S_src hs.below (fun c hc => ?_)
  ·intro c hc; rw [hbx]; split
   ·rfl
   ·split
    ·rfl
    ·exact hc
  ·intro c kk hc
   rw [hbx] at hc
   split at hc
   ·rename_i e1; subst e1; cases hc
    refine .inr ⟨⟨β, cap, arr, el, fun i j γ => Rf i j γ ∧ ¬ (i = ix ∧ j = k), ?_, ?_, h2, h3, h4, h5, ?_, ?_, fun i j h => h8 i j h.1, fun i j i' j' γ h h' => h9 i j i' j' γ h.1 h'.1, ?_, ?_⟩, fun c' hc' => ?_⟩
    ·simp only [G', if_neg hsb.symm]; exact hβ
    ·simp only [G', if_neg hsb.symm]; exact h1
    ·intro i0 row0 j0 t0 hi hj hne
     exact (h6 i0 row0 j0 t0 hi hj).mono (fun _ _ => rfl) (fun _ h => h) (fun γ hγ => ⟨hγ, hne⟩)
    ·intro i0 j0 γ hγ
     simp only [G', if_neg hsb.symm, if_true]
     exact ⟨h7 i0 j0 γ hγ.1, fun hr => hγ.2 (h9 i0 j0 ix k γ hγ.1 hr)⟩
    ·simp only [G', if_true]
    ·simp only [G', if_true]; exact g2
    ·have : c' = s := by simpa [BH.names] using hc'
     subst this
     rw [hbx, if_neg hsb, if_pos rfl]; rfl
   ·rename_i e1
    split at hc
    ·rename_i e2'; subst e2'; cases hc
     exact .inr ⟨g3 G' c (fun _ h => h) (by simp [G']) (by simp [G']) (fun γ hγ => by simp [G', hγ]), fun c' hc' => by rw [R2] at hc'; cases hc'⟩
    ·rename_i e2'
     exact .inl ⟨hc, by simp only [G', if_neg e1, if_neg e2'], fun _ _ _ => rfl⟩
  ·intro c kk γ hc hr hγ
   rw [hbx] at hc
   split at hc
   ·rename_i e1; subst e1
    exact hs.at_ok c _ γ hb rfl (hasB γ hγ).1
   ·rename_i e1
    split at hc
    ·rename_i e2'; subst e2'
     have := hs.at_ok b _ γ hb rfl (.inr (h7 ix k γ (hasS γ hγ)))
     exact ⟨.new (this.1.1 hbl), this.2⟩
    ·rename_i e2'
     exact hs.at_ok c kk γ hc hr ((hasO c γ e2' e1).1 hγ)
  ·intro c c' kk kk' γ hc hc' hr hr' hγ hγ'
   rw [hbx] at hc hc'
   have cl : ∀ c kk, (if c = b then some (BH.hol e cols ix k s rows) else if c = s then some (inner e2 cols2 rows2) else st.bx c) = some kk → kk.real = true → G'.has c γ → (c = b ∧ G.has b γ ∧ ¬ Rf ix k γ) ∨ (c = s ∧ Rf ix k γ) ∨ (c ≠ b ∧ st.bx c = some kk ∧ G.has c γ) := by
    intro c kk hc hr hγ
    split at hc
    ·rename_i e1; subst e1; exact .inl ⟨rfl, hasB γ hγ⟩
    ·rename_i e1
     split at hc
     ·rename_i e2'; subst e2'; exact .inr (.inl ⟨rfl, hasS γ hγ⟩)
     ·rename_i e2'; exact .inr (.inr ⟨e1, hc, (hasO c γ e2' e1).1 hγ⟩)
   rcases cl c kk hc hr hγ with ⟨q1, q2, q3⟩ | ⟨q1, q2⟩ | ⟨q1, q2, q3⟩ <;> rcases cl c' kk' hc' hr' hγ' with ⟨q1', q2', q3'⟩ | ⟨q1', q2'⟩ | ⟨q1', q2', q3'⟩
   ·rw [q1, q1']
   ·exact (q3 q2').elim
   ·exact (q1' (hs.at_inj c' b _ _ γ q2' hb hr' rfl q3' q2)).elim
   ·exact (q3' q2).elim
   ·rw [q1, q1']
   ·exact (q1' (hs.at_inj c' b _ _ γ q2' hb hr' rfl q3' (.inr (h7 ix k γ q2)))).elim
   ·exact (q1 (hs.at_inj c b _ _ γ q2 hb hr rfl q3 q2')).elim
   ·exact (q1 (hs.at_inj c b _ _ γ q2 hb hr rfl q3 (.inr (h7 ix k γ q2')))).elim
   ·exact hs.at_inj c c' kk kk' γ q2 q2' hr hr' q3 q3'
  ·have e1 : c ≠ s := fun e => by rw [e, hbl2] at hc; cases hc
   have e2' : c ≠ b := fun e => by rw [e, hbl] at hc; cases hc
   refine ⟨?_, ?_, ?_⟩ <;> simp only [G', if_neg e1, if_neg e2']
 exact ⟨G', key⟩
theorem Fs {st : St} (b c : Nat) {e ix k e2 : Nat} {cols cols2 : List Ow} {rows rows2 rows' : List (List T)} {row : List T} (hb : st.bx b = some (.hol e cols ix k c rows)) (hc : st.bx c = some (inner e2 cols2 rows2)) (hcol : cols.getD k .s = .x e2 cols2) (hrow : rows[ix]? = some row)
  (hbl : Bt b = false) (hcl : Bt c = false) (hr : rows.set ix (row.set k (.sl rows2)) = rows') : Gq P X st ⟨st.env, Bj st.bx [(b, .dvec e cols rows'), (c, .gone)]⟩ := by
 have hcb : c ≠ b := fun e' => by rw [e', hb] at hc; unfold inner at hc; split at hc <;> cases hc
 subst hr
 rintro a w ⟨G, hs⟩
 obtain ⟨β, cap, arr, el, Rf, hβ, h1, h2, h3, h4, h5, h6, h7, h8, h9, h10, h11⟩ := hs.blk b _ hb
 have hX := SX (hs.blk c _ hc)
 have hre := h5 ix row hrow
 let G' : Gh := { G with more := fun d => if d = b then (fun γ => G.more b γ ∨ G.has c γ) else G.more d }
 have hcβ : ∀ γ, G.has c γ → γ ≠ β := fun γ h e' => hcb (hs.at_inj c b _ _ γ hc hb FP rfl h (.inl (e' ▸ hβ)))
 have hbx : ∀ d, Bj st.bx [(b, .dvec e cols (rows.set ix (row.set k (.sl rows2)))), (c, .gone)] d = if d = b then some (.dvec e cols (rows.set ix (row.set k (.sl rows2)))) else if d = c then some .gone else st.bx d := fun d => rfl
 have hasO : ∀ d γ, d ≠ b → (G'.has d γ ↔ G.has d γ) := fun d γ h => by unfold Gh.has; simp only [G', if_neg h]
 have hasB : ∀ γ, G'.has b γ → G.has b γ ∨ G.has c γ := fun γ h => by
  unfold Gh.has at h
  simp only [G', if_true] at h
  rcases h with h | h | h
  ·exact .inl (.inl h)
  ·exact .inl (.inr h)
  ·exact .inr h
 refine ⟨G', ?_⟩
 refine hs.frame2 (fun d hd => ?_) (fun _ h => h) (fun _ _ => rfl) (fun _ _ => rfl) (fun _ _ => rfl) ?_ ?_ ?_ hs.S_lt hs.S_src hs.below (fun d hd => ?_)
 ·rw [hbx]; split
  ·rfl
  ·split
   ·rfl
   ·exact hd
 ·intro d kk hd
  rw [hbx] at hd
  split at hd
  ·rename_i e1; subst e1; cases hd
   refine .inr ⟨.inr ⟨β, cap, arr, el, fun i0 j0 γ => if i0 = ix ∧ j0 = k then G.has c γ else Rf i0 j0 γ, hβ, by rw [zF8]; exact h1, h2, by rw [zF8]; exact h3, h4, ?_, ?_, ?_, ?_, ?_⟩, fun c' hc' => by cases hc'⟩
   ·intro j0 row' hj
    rcases Id hj with ⟨_, rfl⟩ | ⟨_, hj⟩
    ·rw [zF8]; exact hre
    ·exact h5 j0 row' hj
   ·intro i0 row' j0 t0 hi hj
    have hj0 : j0 < e := by
     have := AC hj
     rcases Id hi with ⟨_, rfl⟩ | ⟨_, hi⟩
     ·rw [zF8] at this; omega
     ·have := h5 i0 row' hi; omega
    by_cases hh : i0 = ix ∧ j0 = k
    ·obtain ⟨rfl, rfl⟩ := hh
     rw [hcol]
     have ht0 : t0 = .sl rows2 := by
      rcases Id hi with ⟨_, rfl⟩ | ⟨hne, _⟩
      ·rcases Id hj with ⟨_, rfl⟩ | ⟨hne, _⟩
       ·rfl
       ·exact (hne rfl).elim
      ·exact (hne rfl).elim
     subst ht0
     rw [h10]
     exact hX.mono (fun _ _ => rfl) (fun _ h => h) (fun γ hγ => by simp only [and_self, if_true]; exact hγ)
    ·have hold : ∃ row0, rows[i0]? = some row0 ∧ row0[j0]? = some t0 := by
      rcases Id hi with ⟨hii, rfl⟩ | ⟨_, hi⟩
      ·subst hii
       rcases Id hj with ⟨hjj, _⟩ | ⟨_, hj⟩
       ·exact (hh ⟨rfl, hjj⟩).elim
       ·exact ⟨row, hrow, hj⟩
      ·exact ⟨row', hi, hj⟩
     obtain ⟨row0, q1, q2⟩ := hold
     exact (h6 i0 row0 j0 t0 q1 q2 hh).mono (fun _ _ => rfl) (fun _ h => h) (fun γ hγ => by simp only [if_neg hh]; exact hγ)
   ·intro i0 j0 γ hγ
    simp only [G', if_true]
    split at hγ
    ·exact .inr hγ
    ·exact .inl (h7 i0 j0 γ hγ)
   ·intro i0 j0 hγ
    split at hγ
    ·exact hcβ β hγ rfl
    ·exact h8 i0 j0 hγ
   ·intro i0 j0 i1 j1 γ hγ hγ'
    have cross : ∀ i j, Rf i j γ → G.has c γ → False := fun i j hr hh => hcb (hs.at_inj c d _ _ γ hc hb FP rfl hh (.inr (h7 i j γ hr)))
    split at hγ <;> split at hγ'
    ·rename_i q q'; exact ⟨q.1.trans q'.1.symm, q.2.trans q'.2.symm⟩
    ·exact (cross _ _ hγ' hγ).elim
    ·exact (cross _ _ hγ hγ').elim
    ·exact h9 i0 j0 i1 j1 γ hγ hγ'
  ·rename_i e1
   split at hd
   ·cases hd; exact .inr ⟨trivial, fun c' hc' => by cases hc'⟩
   ·rename_i e2'
    exact .inl ⟨hd, by simp only [G', if_neg e1], fun _ _ _ => rfl⟩
 ·intro d kk γ hd hr hγ
  rw [hbx] at hd
  split at hd
  ·rename_i e1; subst e1
   rcases hasB γ hγ with h | h
   ·exact hs.at_ok d _ γ hb rfl h
   ·have := hs.at_ok c _ γ hc FP h
    exact ⟨.new (this.1.1 hcl), this.2⟩
  ·rename_i e1
   split at hd
   ·cases hd; cases hr
   ·exact hs.at_ok d kk γ hd hr ((hasO d γ e1).1 hγ)
 ·intro d d' kk kk' γ hd hd' hr hr' hγ hγ'
  rw [hbx] at hd hd'
  have cl : ∀ d kk, (if d = b then some (BH.dvec e cols (rows.set ix (row.set k (.sl rows2)))) else if d = c then some .gone else st.bx d) = some kk → kk.real = true → G'.has d γ → (d = b ∧ (G.has b γ ∨ G.has c γ)) ∨ (d ≠ b ∧ d ≠ c ∧ st.bx d = some kk ∧ G.has d γ) := by
   intro d kk hd hr hγ
   split at hd
   ·rename_i e1; subst e1; exact .inl ⟨rfl, hasB γ hγ⟩
   ·rename_i e1
    split at hd
    ·cases hd; cases hr
    ·rename_i e2'; exact .inr ⟨e1, e2', hd, (hasO d γ e1).1 hγ⟩
  rcases cl d kk hd hr hγ with ⟨q1, q2⟩ | ⟨q1, q2, q3, q4⟩ <;> rcases cl d' kk' hd' hr' hγ' with ⟨q1', q2'⟩ | ⟨q1', q2', q3', q4'⟩
  ·rw [q1, q1']
  ·rcases q2 with h | h
   ·exact (q1' (hs.at_inj d' b _ _ γ q3' hb hr' rfl q4' h)).elim
   ·exact (q2' (hs.at_inj d' c _ _ γ q3' hc hr' FP q4' h)).elim
  ·rcases q2' with h | h
   ·exact (q1 (hs.at_inj d b _ _ γ q3 hb hr rfl q4 h)).elim
   ·exact (q2 (hs.at_inj d c _ _ γ q3 hc hr FP q4 h)).elim
  ·exact hs.at_inj d d' kk kk' γ q3 q3' hr hr' q4 q4'
 ·have e1 : d ≠ b := fun e' => by rw [e', hbl] at hd; cases hd
  refine ⟨rfl, rfl, ?_⟩
  simp only [G', if_neg e1]
theorem G4 {rows : List (List T)} {ix k : Nat} {row : List T} {t : T} (h : rows[ix]? = some row) (hk : row[k]? = some t) : rows.set ix (row.set k t) = rows := by
 have h1 : row.set k t = row := by
  apply List.ext_getElem?
  intro j
  rw [zD8]
  split
  ·rename_i e; subst e; split
   ·exact hk.symm
   ·rename_i hn; exact absurd (AC hk) hn
  ·rfl
 rw [h1]
 apply List.ext_getElem?
 intro j
 rw [zD8]
 split
 ·rename_i e; subst e; split
  ·exact h.symm
  ·rename_i hn; exact absurd (AC h) hn
 ·rfl
section run
variable {dr : Bool} {Q : St → Prop} {r i : Nat} {st : St} {log : List (Nat × CM)} {o : Oper} {gs : List (Operand × D)}
theorem Me {x : Operand} {b c e ix k s : Nat} {cols : List Ow} {rows : List (List T)} {row : List T} {u : T} {t : TypeId} (hat : At st.env ops i X.n (.load t x) s gs)
  (hx : opd st.env x = some (.e (.one (.eptr b e ix k)))) (ht : Fp P t false = true) (hb : st.bx b = some (.hol e cols ix k c rows)) (hrow : rows[ix]? = some row) (hc : row[k]? = some u)
  (next : A8 P X ops dr Q r (i + 1) (CM.upd ⟨gs ++ [(x, .e (.one (.eptr b e ix k)))], [(b, .hol e cols ix k c rows)], some s, some (.e (.one (.own c))), [], []⟩ st) ((i, ⟨gs ++ [(x, .e (.one (.eptr b e ix k)))], [(b, .hol e cols ix k c rows)], some s, some (.e (.one (.own c))), [], []⟩) :: log)) : A8 P X ops dr Q (r + 1) i st log := by
 obtain ⟨o, ho, hop, hd, hn, hg, hgp⟩ := hat.out
 refine A8.step next ⟨Ak.2 ⟨hgp, hx, trivial⟩, ⟨hb, trivial⟩, trivial⟩ (LR.value ho hg rfl hd.symm (Dx hd hn) ?_)
 intro G st a w hs hpre
 have hx := (Ak.1 hpre.r).2.1
 have hb := hpre.b.1
 obtain ⟨β, hβ, hv⟩ : Fg P w G (a.eval x) (.eptr b e ix k) := hs.opd hx
 obtain ⟨β', cap, arr, el, Rf, h0, h1, h2, h3, h4, h5, h6, h7, h8, h9, h10, h11⟩ := hs.blk b _ hb
 rw [hβ] at h0; cases h0
 have hre := h5 ix row hrow
 have hk := AC hc
 have hix := AC hrow
 have hbnd : ix * e + e ≤ arr.size := by rw [h4, ← zC7]; exact zA3 e (zG4 hix h3)
 refine ⟨Aw arr (ix * e + k), w, G, ?_, hs, ?_⟩
 ·simp only [execOp, hop, hv]
  exact Aj (Ju ht h2 (by omega)) rfl
 ·rintro d ⟨⟩
  refine ⟨⟨h10, by rw [h10]; exact h11⟩, fun b' hb' => ?_⟩
  have : b' = c := by simpa [D.names, E.names, C.names] using hb'
  subst this
  exact hs.liveB b _ hb b' (by simp [BH.names])
def W5 (bx : Nat → Option BH) : C → Ow → T → Prop
 | .pure u, .s, t => u = t
 | .own c, .x e2 cols2, .sl rows2 => bx c = some (inner e2 cols2 rows2)
 | _, _, _ => False
def TN (bx : Nat → Option BH) : Nat → List Ow → List C → List T → Prop
 | _, _, [], [] => True
 | j, cols, c :: cs, t :: ts => W5 bx c (cols.getD j .s) t ∧ TN bx (j + 1) cols cs ts
 | _, _, _, _ => False
def O9 : Nat → List Ow → List C → List T → List (Nat × BH)
 | j, cols, .own c :: cs, .sl rows2 :: ts => (match cols.getD j .s with | .x e2 cols2 => [(c, inner e2 cols2 rows2)] | .s => []) ++ O9 (j + 1) cols cs ts
 | j, cols, _ :: cs, _ :: ts => O9 (j + 1) cols cs ts
 | _, _, _, _ => []
theorem OB {bx : Nat → Option BH} {cols : List Ow} : ∀ {cs : List C} {ts : List T} {j0 : Nat}, TN bx j0 cols cs ts → cs.length = ts.length ∧ ∀ (j : Nat) (c : C) (t : T), cs[j]? = some c → ts[j]? = some t → W5 bx c (cols.getD (j0 + j) .s) t
 | [], [], _, _ => ⟨rfl, fun j c t h => by simp at h⟩
 | c :: cs, t :: ts, j0, h => by
  obtain ⟨g1, g2⟩ := OB h.2
  refine ⟨by simp [g1], fun j c' t' hc ht => ?_⟩
  cases j with
  | zero => simp at hc ht; subst hc; subst ht; exact h.1
  | succ j =>
   have := g2 j c' t' (by simpa using hc) (by simpa using ht)
   rwa [show j0 + 1 + j = j0 + (j + 1) from by omega] at this
end run
end Go.Lift
namespace Go.Lift
open List renaming mem_of_getElem? → lM
open Go.RowKit
variable {P : Program} {X : Im} {ops : Array Oper}
theorem VB {e : Nat} {arr : Array Value} {v : Value} (ha : arr.size = 1 * e) (hv : v.cells.size = e) :
  ∃ arr', Instr.fill (fun i => some (i * e, e)) arr [(0, v)] = some arr' ∧ arr'.size = 1 * e ∧ ∀ j, j < e → Aw arr' j = Aw v.cells j := by
 refine ⟨FR arr 0 v.cells.toList, ?_, by rw [GK, ha], fun j hj => ?_⟩
 ·simp only [Instr.fill]
  rw [if_neg (by simp; omega), M3]
  simp
 ·rw [Fx _ _ _ _ (by simp; omega), if_pos (by simp; omega), FJ, Nat.sub_zero]
theorem UK {bx : Nat → Option BH} {c : C} {o : Ow} {t : T} (h : W5 bx c o t) : (∃ u, c = .pure u ∧ o = .s ∧ t = u) ∨ ∃ b e2 cols2 rows2, c = .own b ∧ o = .x e2 cols2 ∧ t = .sl rows2 ∧ bx b = some (inner e2 cols2 rows2) := by
 cases c with
 | pure u =>
  cases o with
  | s => exact .inl ⟨u, rfl, rfl, h.symm⟩
  | x e cols => exact h.elim
 | own b =>
  cases o with
  | s => exact h.elim
  | x e cols =>
   cases t with
   | sl rows2 => exact .inr ⟨b, e, cols, rows2, rfl, rfl, rfl, h⟩
   | _ => exact h.elim
 | _ => cases o <;> exact h.elim
section run
variable {dr : Bool} {Q : St → Prop} {r i : Nat} {st : St} {log : List (Nat × CM)} {o : Oper} {gs : List (Operand × D)}
def DM : List C → List Nat
 | [] => []
 | .own c :: cs => c :: DM cs
 | _ :: cs => DM cs
theorem GB {b : Nat} : ∀ {cs : List C}, b ∈ DM cs ↔ .own b ∈ cs
 | [] => by simp [DM]
 | c :: cs => by
  cases c <;> simp [DM, GB (cs := cs)]
theorem NL : ∀ {cs : List C}, (DM cs).Nodup → ∀ (j j' b : Nat), cs[j]? = some (.own b) → cs[j']? = some (.own b) → j = j'
 | [], _, j, j', b, h, _ => by simp at h
 | c :: cs, hn, j, j', b, h, h' => by
  have hn2 : (DM cs).Nodup := by
   cases c <;> simp only [DM] at hn <;> first | exact hn | exact (zE7.1 hn).2
  have hnot : c = .own b → .own b ∉ cs := fun e hm => by
   subst e
   simp only [DM] at hn
   exact (zE7.1 hn).1 (GB.2 hm)
  cases j with
  | zero =>
   cases j' with
   | zero => rfl
   | succ j' =>
    simp at h h'
    exact (hnot h (lM h')).elim
  | succ j =>
   cases j' with
   | zero =>
    simp at h h'
    exact (hnot h' (lM h)).elim
   | succ j' =>
    rw [NL hn2 j j' b (by simpa using h) (by simpa using h')]
theorem LP {t el : TypeId} {s e : Nat} {z : Value} {y : Operand} {x : E} {cs : List C} {ts : List T} (cols : List Ow) (rb : List (Nat × BH)) {parts : Array (Nat × Operand)} (hat : At st.env ops i X.n (.buildSlice t 1 parts) s gs) (hps : parts = #[(0, y)])
  (hx : opd st.env y = some (.e x)) (hcs : x.cells = cs) (hlen : cs.length = e) (hrb : O9 0 cols cs ts = rb) (hb : Hz st.bx rb) (hcx : TN st.bx 0 cols cs ts) (hnew : st.bx s = none)
  (hnd : Iv (DM cs) = true) (hnl : (DM cs).all (fun c => !Bt c) = true) (ht : sliceB P t el = true) (he : HK P el e = true) (hz : EE P el = some z) (hsm : e ≤ 16777216)
  (next : A8 P X ops dr Q r (i + 1) (CM.upd ⟨gs ++ [(y, .e x)], rb, some s, some (.e (.one (.own s))), (s, .dvec e cols [ts]) :: GA (DM cs), [s]⟩ st) ((i, ⟨gs ++ [(y, .e x)], rb, some s, some (.e (.one (.own s))), (s, .dvec e cols [ts]) :: GA (DM cs), [s]⟩) :: log)) : A8 P X ops dr Q (r + 1) i st log := by
 obtain ⟨o, ho, hop, hdst, hn, hg, hgp⟩ := hat.out
 have hndp := Ik hnd
 refine A8.step next ⟨Ak.2 ⟨hgp, hx, trivial⟩, hb, hnew, trivial⟩ (LR.value ho hg rfl hdst.symm (Dx hdst hn) ?_)
 have hcx0 := OB hcx
 intro G st' a w hs hpre
 have hx := (Ak.1 hpre.r).2.1
 have hnew := hpre.n.1
 have hb := hpre.b
 have hpb : ∀ {l : List (Nat × BH)}, Hz st'.bx l → ∀ p, p ∈ l → st'.bx p.1 = some p.2 := by
  intro l
  induction l with
  | nil => intro _ p hp; cases hp
  | cons q l ih =>
   intro h p hp
   rcases zB0.1 hp with e | e
   ·subst e; exact h.1
   ·exact ih h.2 p e
 -- what each cell is, in this state
 have hown : ∀ (j : Nat) (c : C) (u : T), cs[j]? = some c → ts[j]? = some u → (∃ v, c = .pure v ∧ cols.getD j .s = .s ∧ u = v) ∨ ∃ b e2 cols2 rows2, c = .own b ∧ cols.getD j .s = .x e2 cols2 ∧ u = .sl rows2 ∧ st'.bx b = some (inner e2 cols2 rows2) := by
  intro j c u hc hu
  have h1 := hcx0.2 j c u hc hu
  rw [zA1] at h1
  rcases UK h1 with h2 | ⟨b, e2, cols2, rows2, rfl, h3, rfl, _⟩
  ·exact .inl h2
  ·refine .inr ⟨b, e2, cols2, rows2, rfl, h3, rfl, ?_⟩
   have hmem : ∀ (cs : List C) (ts : List T) (j0 j : Nat), cs[j]? = some (.own b) → ts[j]? = some (.sl rows2) → cols.getD (j0 + j) .s = .x e2 cols2 → (b, inner e2 cols2 rows2) ∈ O9 j0 cols cs ts := by
    intro cs
    induction cs with
    | nil => intro ts j0 j h; simp at h
    | cons c cs ih =>
     intro ts j0 j h h' hcol
     cases ts with
     | nil => simp at h'
     | cons t ts =>
      cases j with
      | zero =>
       simp at h h'; subst h; subst h'
       rw [zF9] at hcol
       simp only [O9, hcol]
       exact zG6 _ (by simp)
      | succ j =>
       have := ih ts (j0 + 1) j (by simpa using h) (by simpa using h') (by rwa [show j0 + 1 + j = j0 + (j + 1) from by omega])
       cases c <;> first | (simp only [O9]; exact this) | (cases t <;> simp only [O9] <;> first | exact this | exact List.mem_append_right _ this)
   have := hmem cs ts 0 j hc hu (by rw [zA1]; exact h3)
   rw [hrb] at this
   exact hpb hb _ this
 obtain ⟨hcsz, hcr⟩ := (show Jw P w G (a.eval y) x from hs.opd hx).cells
 rw [hcs] at hcsz hcr
 have hve : (a.eval y).cells.size = e := by rw [hcsz, hlen]
 have hgn : ∀ c, c ∈ DM cs → ∃ (j e2 : Nat) (cols2 : List Ow) (rows2 : List (List T)), cs[j]? = some (.own c) ∧ cols.getD j .s = .x e2 cols2 ∧ st'.bx c = some (inner e2 cols2 rows2) := by
  intro c hc
  obtain ⟨j, hj⟩ := zA8.1 (GB.1 hc)
  have hjt : j < ts.length := by rw [← hcx0.1]; exact AC hj
  rcases hown j _ ts[j] hj (by simp [hjt]) with ⟨v, h, _⟩ | ⟨b, e2, cols2, rows2, h1, h2, _, h4⟩
  ·cases h
  ·cases h1; exact ⟨j, e2, cols2, rows2, hj, h2, h4⟩
 have hs0 : s ∉ DM cs := fun hm => by
  obtain ⟨_, _, _, _, _, _, h⟩ := hgn s hm
  rw [hnew] at h; cases h
 obtain ⟨arr', r1, r2, r3⟩ := VB (e := e) (arr := (Array.range (1 * e)).map (fun k => (if 1 * e = 0 then (#[] : Array Value) else z.cells)[k % (if 1 * e = 0 then (#[] : Array Value) else z.cells).size]!)) (v := a.eval y) (by simp) hve
 let w' := w.alloc (.cells arr' el)
 let G' : Gh := { S := G.S, loc := fun c => if c = s then some w.heap.size else G.loc c, hd := fun c => if c = s then .slice (some ⟨w.heap.size, 0, none⟩) 1 1 else G.hd c, more := fun c => if c = s then (fun γ => ∃ b, b ∈ DM cs ∧ G.has b γ) else G.more c }
 have hheap : ∀ γ, γ < w.heap.size → w'.heap[γ]? = w.heap[γ]? := fun γ hγ => by show (w.alloc _).heap[γ]? = _; rw [DG, if_neg (by omega)]
 have hatw : w'.heap[w.heap.size]? = some (.cells arr' el) := by show (w.alloc _).heap[_]? = _; rw [DG, if_pos rfl]
 have hsz : w'.heap.size = w.heap.size + 1 := by show (w.heap.push _).size = _; simp
 have hbx : ∀ d, Bj st'.bx ((s, .dvec e cols [ts]) :: GA (DM cs)) d = if d = s then some (.dvec e cols [ts]) else if d ∈ DM cs then some .gone else st'.bx d := fun d => by
  simp only [Bj]; split
  ·rfl
  ·exact KN
 have hsome : ∀ c, (st'.bx c).isSome = true → c ≠ s := fun c hc e => by rw [e, hnew] at hc; cases hc
 have hasO : ∀ d γ, d ≠ s → (G'.has d γ ↔ G.has d γ) := fun d γ h => by unfold Gh.has; simp only [G', if_neg h]
 have hasS : ∀ γ, G'.has s γ → γ = w.heap.size ∨ ∃ b, b ∈ DM cs ∧ G.has b γ := fun γ h => by
  unfold Gh.has at h
  simp only [G', if_true] at h
  rcases h with h | h
  ·cases h; exact .inl rfl
  ·exact .inr h
 have hlt : ∀ b γ, b ∈ DM cs → G.has b γ → OE X b γ ∧ γ < w.heap.size ∧ ¬ G.S γ := fun b γ hbm hγ => by
  obtain ⟨_, _, _, _, _, _, h⟩ := hgn b hbm
  exact hs.at_ok b _ γ h FP hγ
 have hcsj : ∀ (j : Nat) (c : C), cs[j]? = some c → Fg P w G (Aw (a.eval y).cells j) c := hcr
 have key : C5 P X G' ⟨st'.env, Bj st'.bx ((s, .dvec e cols [ts]) :: GA (DM cs))⟩ a w' := by
  refine hs.frame2 (fun d hd => ?_) (fun _ h => h) (fun c hc => by simp only [G']; rw [if_neg (hsome c hc)]) (fun c hc => by simp only [G']; rw [if_neg (hsome c hc)]) (fun γ hγ => hheap γ (hs.S_lt γ hγ)) ?_ ?_ ?_ (fun γ hγ => by have := hs.S_lt γ hγ; omega) hs.S_src (hs.below.alloc hs.below.size _) (fun d hd => ?_)
  ·rw [hbx]; split
   ·rfl
   ·split
    ·rfl
    ·exact hd
  ·intro d kk hd
   rw [hbx] at hd
   split at hd
   ·rename_i e1; subst e1; cases hd
    refine .inr ⟨.inr ⟨w.heap.size, 1, arr', el, fun i0 j0 γ => i0 = 0 ∧ ∃ b, cs[j0]? = some (.own b) ∧ G.has b γ, by simp [G'], by simp [G'], hatw, by simp, r2, ?_, ?_, ?_, ?_, ?_⟩, fun c' hc' => by cases hc'⟩
    ·intro i0 row hi
     cases i0 with
     | zero => simp at hi; subst hi; rw [← hcx0.1, hlen]
     | succ i0 => simp at hi
    ·intro i0 row j0 t0 hi hj
     cases i0 with
     | succ i0 => simp at hi
     | zero =>
      simp at hi; subst hi
      have hj0 : j0 < cs.length := by rw [hcx0.1]; exact AC hj
      have hcj : cs[j0]? = some cs[j0] := by simp [hj0]
      rw [Nat.zero_mul, zA1, r3 j0 (by omega)]
      have hR := hcsj j0 _ hcj
      rcases hown j0 _ t0 hcj hj with ⟨v, h1, h2, h3⟩ | ⟨b, e2, cols2, rows2, h1, h2, h3, h4⟩
      ·rw [h2, h3]
       rw [h1] at hR
       exact .s ((show Ea w G.S _ v from hR).mono (fun γ hγ => hheap γ (hs.S_lt γ hγ)) fun _ h => h)
      ·rw [h2, h3]
       rw [h1] at hR hcj
       have hvv : Aw (a.eval y).cells j0 = G.hd b := hR.1
       rw [hvv]
       refine (SX (hs.blk b _ h4)).mono (fun γ hγ => hheap γ ?_) (fun _ h => h) (fun γ hγ => ⟨rfl, b, hcj, hγ⟩)
       rcases hγ with h | h
       ·exact hs.S_lt γ h
       ·exact (hs.at_ok b _ γ h4 FP h).2.1
    ·rintro i0 j0 γ ⟨_, b, hcb, hγ⟩
     simp only [G', if_true]
     exact ⟨b, GB.2 (lM hcb), hγ⟩
    ·rintro i0 j0 ⟨_, b, hcb, hγ⟩
     exact zG2 _ (hlt b _ (GB.2 (lM hcb)) hγ).2.1
    ·rintro i0 j0 i1 j1 γ ⟨q0, b, hcb, hγ⟩ ⟨q1, b', hcb', hγ'⟩
     refine ⟨q0.trans q1.symm, ?_⟩
     obtain ⟨_, _, _, _, _, _, k1⟩ := hgn b (GB.2 (lM hcb))
     obtain ⟨_, _, _, _, _, _, k2⟩ := hgn b' (GB.2 (lM hcb'))
     have := hs.at_inj b b' _ _ γ k1 k2 FP FP hγ hγ'
     subst this
     exact NL hndp _ _ b hcb hcb'
   ·rename_i e1
    split at hd
    ·cases hd; exact .inr ⟨trivial, fun c' hc' => by cases hc'⟩
    ·exact .inl ⟨hd, by simp only [G', if_neg e1], fun γ hr hγ => hheap γ (hs.at_ok d kk γ hd hr hγ).2.1⟩
  ·intro d kk γ hd hr hγ
   rw [hbx] at hd
   split at hd
   ·rename_i e1; subst e1
    rcases hasS γ hγ with h | ⟨b, hbm, h⟩
    ·subst h
     exact ⟨.new hs.below.size, by omega, fun h => zG2 _ (hs.S_lt _ h)⟩
    ·have := hlt b γ hbm h
     have hbl : Bt b = false := by
      have := zA5.1 hnl b hbm
      simpa using this
     exact ⟨.new (this.1.1 hbl), by omega, this.2.2⟩
   ·rename_i e1
    split at hd
    ·cases hd; cases hr
    ·have := hs.at_ok d kk γ hd hr ((hasO d γ e1).1 hγ)
     exact ⟨this.1, by omega, this.2.2⟩
  ·intro d d' kk kk' γ hd hd' hr hr' hγ hγ'
   rw [hbx] at hd hd'
   have cl : ∀ d kk, (if d = s then some (BH.dvec e cols [ts]) else if d ∈ DM cs then some .gone else st'.bx d) = some kk → kk.real = true → G'.has d γ → (d = s ∧ (γ = w.heap.size ∨ ∃ b, b ∈ DM cs ∧ G.has b γ)) ∨ (d ≠ s ∧ d ∉ DM cs ∧ st'.bx d = some kk ∧ G.has d γ) := by
    intro d kk hd hr hγ
    split at hd
    ·rename_i e1; subst e1; exact .inl ⟨rfl, hasS γ hγ⟩
    ·rename_i e1
     split at hd
     ·cases hd; cases hr
     ·rename_i e2'; exact .inr ⟨e1, e2', hd, (hasO d γ e1).1 hγ⟩
   have cross : ∀ d kk, d ∉ DM cs → st'.bx d = some kk → kk.real = true → G.has d γ → (γ = w.heap.size ∨ ∃ b, b ∈ DM cs ∧ G.has b γ) → False := by
    intro d kk hdm hd hr hγ h
    rcases h with h | ⟨b, hbm, h⟩
    ·have := (hs.at_ok d kk γ hd hr hγ).2.1; omega
    ·obtain ⟨_, _, _, _, _, _, k1⟩ := hgn b hbm
     exact hdm (hs.at_inj d b _ _ γ hd k1 hr FP hγ h ▸ hbm)
   rcases cl d kk hd hr hγ with ⟨q1, q2⟩ | ⟨q1, q2, q3, q4⟩ <;> rcases cl d' kk' hd' hr' hγ' with ⟨q1', q2'⟩ | ⟨q1', q2', q3', q4'⟩
   ·rw [q1, q1']
   ·exact (cross d' kk' q2' q3' hr' q4' q2).elim
   ·exact (cross d kk q2 q3 hr q4 q2').elim
   ·exact hs.at_inj d d' kk kk' γ q3 q3' hr hr' q4 q4'
  ·have e1 : d ≠ s := fun e' => by rw [e', hs.nl hn] at hd; cases hd
   refine ⟨?_, ?_, ?_⟩ <;> simp only [G', if_neg e1]
 refine ⟨.slice (some ⟨w.heap.size, 0, none⟩) 1 1, w', G', ?_, key, ?_⟩
 ·simp only [execOp, hop, hps]
  refine Aj (w1 := w') (a := .slice (some ⟨w.heap.size, 0, none⟩) 1 1) ?_ rfl
  have hpa : ((#[(0, y)] : Array (Nat × Operand)).map fun (i, x) => (i, a.eval x)) = #[(0, a.eval y)] := by simp
  unfold sliceB at ht
  split at ht
  ·rename_i e' hu
   have : e' = el := by simpa using ht
   subst this
   rw [hpa]
   unfold Instr.buildSlice
   refine Aj (AO hu w) ?_
   refine Aj (EB he w) ?_
   rw [if_neg (by omega)]
   by_cases hne : 1 * e = 0
   ·rw [if_pos hne] at r1
    rw [if_pos hne]
    refine Aj (a := (#[] : Array Value)) (w1 := w) rfl ?_
    simp only [r1]
    rfl
   ·rw [if_neg hne] at r1
    rw [if_neg hne]
    refine Aj (FH hz w) ?_
    refine Aj (a := z.cells) (w1 := w) rfl ?_
    simp only [r1]
    rfl
  ·cases ht
 ·rintro d ⟨⟩
  refine ⟨⟨by simp [G'], _, _, _, rfl⟩, fun b hb => ?_⟩
  have : b = s := by simpa [D.names, E.names, C.names] using hb
  subst this
  rw [hbx, if_pos rfl]; rfl
end run
end Go.Lift
namespace Go.Lift
open Go.RowKit
variable {P : Program} {X : Im} {ops : Array Oper}
section run
variable {dr : Bool} {Q : St → Prop} {r i : Nat} {st : St} {log : List (Nat × CM)} {o : Oper} {gs : List (Operand × D)}
end run
end Go.Lift
namespace Go.Lift
open Go.RowKit
variable {P : Program} {X : Im}
theorem Bd {α : Type} {c : Operand} {x y : Code} {Q : Exit → St → Prop} {st : St} {b : Bool} {e1 e2 : Option α} {v : α} (h : AP b e1 e2 = some v) (ht : e1 = some v → W P X x Q st) (hf : e2 = some v → W P X y Q st) (hc : opd st.env c = some (bD b) := by exact rfl) : W P X (.cond c x y) Q st :=
 ZE hc (fun k => ht (YX k h)) (fun k => hf (YO k h))
theorem Ec {ops : Array Oper} {dr : Bool} {Q : St → Prop} {r i : Nat} {st : St} {log : List (Nat × CM)} {α : Type} {b : Bool} {e1 e2 : Option α} {v : α} (t : Nat) (h : AP b e1 e2 = some v) (hx : st.env t = some (bD b)) (h1 : e1 = some v → A8 P X ops dr Q r i (St.put st (some t) (some (bD true))) log) (h2 : e2 = some v → A8 P X ops dr Q r i (St.put st (some t) (some (bD false))) log) : A8 P X ops dr Q r i st log :=
 XF hx (fun k => h1 (YX k h)) (fun k => h2 (YO k h))
theorem sn {V R : Type} {J : V → Option R} {r : R} {S : V → St} {s : St} {v : V} {el : List (Nat × D)} {bl : List (Nat × BH)} (l : List (Nat × Nat)) (h : J v = some r) (e : S v = mk el bl := by exact rfl) (h1 : (Z1 s.env el, bF (rn l) s.bx bl) = (ah (rn l) el, bc (rn l) bl) := by exact rfl) (h2 : ((Iv ((FN bl).map (rn l)) && Nc (rn l) (FN bl)) && (PW (FN bl) el && Qh (FN bl) bl)) = true := by exact rfl) : ∃ v, J v = some r ∧ Gq P X s (S v) :=
 ⟨v, h, e ▸ sm l el bl h1 h2⟩
theorem cT {y : Code} {id : Nat} {ops : Array Oper} {dr : Bool} {Q : Exit → St → Prop} {st : St} {n : Nat} (hm : P.follows .mixedOrders = true) (hn : ops.size = n)
  (h : A8 P X ops dr (fun st' => W P X y Q st') n 0 st []) : W P X (.seq (.region id ops dr) y) Q st :=
 AN (Ai hm hn h)
theorem BT {G : Prop} {α β : Type} {xs : List α} {i : Int} {f : α → Option β} {r : β} (h : (Bx xs i).bind f = some r) (k : ∀ x, 0 ≤ i → xs[i.toNat]? = some x → f x = some r → G) : G := by
 obtain ⟨x, a, b, c⟩ := W8 h
 exact k x a b c
theorem BY {G : Prop} {α β : Type} {x : Option α} {f : α → Option β} {r : β} (h : x.bind f = some r) (k : ∀ a, x = some a → f a = some r → G) : G := by
 obtain ⟨a, b, c⟩ := bind_some h
 exact k a b c
theorem Gf {G : Prop} {β : Type} {p : Prop} [Decidable p] {f : Unit → Option β} {r : β} (h : (DT p).bind f = some r) (k : p → f () = some r → G) : G := k (GE h).1 (GE h).2
section
variable {ops : Array Oper} {dr : Bool} {Q : St → Prop} {r i : Nat} {st : St} {log : List (Nat × CM)} {gs : List (Operand × D)}
theorem qe {x : Operand} {d : D} {s : Nat} (h : (hd st.env ops i X.n, opd st.env x) = (some (.assign x, s, gs), some d)) (k : Q (CM.upd ⟨gs ++ [(x, d)], [], some s, some d, [], []⟩ st)) : A8 P X ops false Q (0 + 1) i st log :=
 qa h (Ac k)
def We (n : Nat) (ops : Array Oper) (i : Nat) (st : St) : Option CM :=
 match (match YZ ops i n with
  | some (_, s, t, want) => (match st.env t with
   | some (.e (.one (.pure (.val (.bool b))))) => (match b, want with
    | true, false => some (s, t, want)
    | false, true => some (s, t, want)
    | _, _ => none)
   | _ => none)
  | none => none) with
 | some (s, t, want) => some ⟨[(.tmp t, bD (!want))], [], some s, some uD, [], []⟩
 | none => match hd st.env ops i n with
  | some (.move x, s, gs) => (opd st.env x).map fun d => ⟨gs ++ [(x, d)], [], some s, some d, [], []⟩
  | _ => none
def Y3 (n : Nat) (ops : Array Oper) : Nat → Nat → St → List (Nat × CM) → Option (St × List (Nat × CM))
 | 0, _, st, log => some (st, log)
 | k + 1, i, st, log => match We n ops i st with
  | none => none
  | some l => Y3 n ops k (i + 1) (CM.upd l st) ((i, l) :: log)
theorem Wk {l : CM} (h : We X.n ops i st = some l) (next : Nx P X ops dr Q r i st log l) : A8 P X ops dr Q (r + 1) i st log := by
 unfold We at h
 split at h
 ·rename_i s t want hh
  split at hh
  ·rename_i j s' t' want' ha
   split at hh
   ·rename_i b hb
    split at hh
    ·cases hh; cases h; exact qn (want := false) (by rw [ha, hb]; rfl) next
    ·cases hh; cases h; exact qn (want := true) (by rw [ha, hb]; rfl) next
    ·cases hh
   ·cases hh
  ·cases hh
 ·split at h
  ·rename_i x s gs' hh
   cases hd' : opd st.env x with
   | none => rw [hd'] at h; cases h
   | some d =>
    rw [hd'] at h
    cases h
    exact qm (by rw [hh, hd']) next
  ·cases h
theorem qw (k : Nat) {st' : St} {log' : List (Nat × CM)} (h : Y3 X.n ops k i st log = some (st', log')) (next : A8 P X ops dr Q r (i + k) st' log') : A8 P X ops dr Q (r + k) i st log := by
 induction k generalizing i st log with
 | zero => cases h; exact next
 | succ k ih =>
  rw [Y3] at h
  split at h
  ·cases h
  ·rename_i l hl
   exact Wk hl (ih h (by rwa [zF3, Nat.add_comm 1]))
end
theorem cw {f n : Nat} {fn : Func} {c : Code} {args : List D} {rv : List (Nat × List (List T))} {res : D} {rs : List ResultVar} (hf : P.funcs[f]? = some fn)
  (h : ∀ (w0 : World) (S0 : Nat → Prop), W P ⟨w0, S0, n, G0 S0⟩ c (fun e st => match e with | .normal | .ret => WU P rs st rv res | _ => False) (Ze args))
  (hb : fn.body = some c := by exact rfl) (hn : fn.ntmps = n := by exact rfl) (hrs : fn.results.toList = rs := by exact rfl) (hl : args.length ≤ n := by exact Ig rfl) (hn9 : n ≤ 90000 := by exact Ig rfl) (hpub : args.all Sn = true := by exact rfl) : Av P f args rv res :=
 PD hf hb hn hrs hl hn9 hpub h
theorem tm {st : St} {t : Nat} {x : E} (h : st.env t = some (.e x) := by exact rfl) : bB P st [.tmp t] [x] := ⟨.tmp _ _ h, trivial⟩
end Go.Lift
