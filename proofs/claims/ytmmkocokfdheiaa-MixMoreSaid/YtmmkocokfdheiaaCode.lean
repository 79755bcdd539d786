/- Lemmas for MixMoreSaid, which YtmmkocokfdheiaaFinMore proves. -/
import Derived.Test.YtmmkocokfdheiaaLift16
import Derived.ProofKit
import Derived.Test.YtmmkocokfdheiaaProg
import Derived.KernelRfl
namespace Go.Lift
open Go.RowKit
variable {P : Program} {X : EM} {ops : Array Oper}
def Fo (P : Program) : Nat → List Field → Option (List Nat)
 | _, [] => some []
 | k, f :: fs => if f.name == "_" || f.offset != k then none else match P.underlying f.type with
  | some (.int _) => (Fo P (k + 1) fs).map (0 :: ·)
  | some .bool => (Fo P (k + 1) fs).map (1 :: ·)
  | some .string => (Fo P (k + 1) fs).map (2 :: ·)
  | _ => none
def Mm (P : Program) (t : TypeId) : Option (List Nat) :=
 match P.underlying t with
 | some (.struct fs) => if P.stoodInHeld t || P.eqGuardType P.depth t then none else Fo P 0 fs.toList
 | _ => none
def CL : List Nat → List Value → List Value → Option Bool
 | [], [], [] => some true
 | 0 :: ts, .int k a :: ar, .int k' b :: bs => if k = k' then (CL ts ar bs).map (fun r => (a == b) && r) else none
 | 1 :: ts, .bool a :: ar, .bool b :: bs => (CL ts ar bs).map (fun r => (a == b) && r)
 | 2 :: ts, .string a :: ar, .string b :: bs => (CL ts ar bs).map (fun r => (a.toList == b.toList) && r)
 | _, _, _ => none
theorem Mx {ts : List Nat} {ar bs : List Value} {r : Bool} (h : CL (0 :: ts) ar bs = some r) : ∃ k a ar' b bs' r', ar = .int k a :: ar' ∧ bs = .int k b :: bs' ∧ CL ts ar' bs' = some r' ∧ r = ((a == b) && r') := by
 unfold CL at h
 split at h <;> try (exfalso; simp_all; done)
 rename_i ts' k a ar' k' b bs' e
 cases e
 split at h
 ·rename_i e; subst e
  cases hel : CL ts ar' bs' with
  | none => rw [hel] at h; cases h
  | some r' =>
   rw [hel] at h
   exact ⟨k, a, ar', b, bs', r', rfl, rfl, hel, by simpa using h.symm⟩
 ·cases h
theorem M5 {ts : List Nat} {ar bs : List Value} {r : Bool} (h : CL (1 :: ts) ar bs = some r) : ∃ a ar' b bs' r', ar = .bool a :: ar' ∧ bs = .bool b :: bs' ∧ CL ts ar' bs' = some r' ∧ r = ((a == b) && r') := by
 unfold CL at h
 split at h <;> try (exfalso; simp_all; done)
 rename_i ts' a ar' b bs' e
 cases e
 cases hel : CL ts ar' bs' with
 | none => rw [hel] at h; cases h
 | some r' =>
  rw [hel] at h
  exact ⟨a, ar', b, bs', r', rfl, rfl, hel, by simpa using h.symm⟩
theorem Mn {ts : List Nat} {ar bs : List Value} {r : Bool} (h : CL (2 :: ts) ar bs = some r) : ∃ a ar' b bs' r', ar = .string a :: ar' ∧ bs = .string b :: bs' ∧ CL ts ar' bs' = some r' ∧ r = ((a.toList == b.toList) && r') := by
 unfold CL at h
 split at h <;> try (exfalso; simp_all; done)
 rename_i ts' a ar' b bs' e
 cases e
 cases hel : CL ts ar' bs' with
 | none => rw [hel] at h; cases h
 | some r' =>
  rw [hel] at h
  exact ⟨a, ar', b, bs', r', rfl, rfl, hel, by simpa using h.symm⟩
theorem JM {t : TypeId} (h : CH P t false = true) {cs : Array Value} {off : Nat} {v : Value} (hv : cs[off]? = some v) (w : World) : (part t cs off).run P w = .ok v w := by
 unfold part
 refine Ag (EK h w) ?_
 simp only [Bool.false_eq_true, if_false, hv]
 rfl
theorem Io (d : Nat) (xs ys : Array Value) (w : World) : ∀ (fs : List Field) (ts : List Nat) (k : Nat) (ar bs : List Value) (r : Bool), Fo P k fs = some ts → (∀ (j : Nat) (v : Value), ar[j]? = some v → xs[k + j]? = some v) → (∀ (j : Nat) (v : Value), bs[j]? = some v → ys[k + j]? = some v) → CL ts ar bs = some r →
  (Op.eqFields (d + 1) xs ys fs).run P w = .ok r w
 | [], ts, k, ar, bs, r, ht, hx, hy, he => by
  cases ht
  cases ar <;> cases bs <;> simp [CL] at he
  subst he; rfl
 | f :: fs, ts, k, ar, bs, r, ht, hx, hy, he => by
  simp only [Fo] at ht
  split at ht
  ·cases ht
  ·rename_i hn
   simp only [Bool.or_eq_true, not_or, beq_iff_eq, bne_iff_ne, ne_eq, Decidable.not_not] at hn
   obtain ⟨hn1, hn2⟩ := hn
   subst hn2
   have step : ∀ (ts' : List Nat) (a b : Value) (ar' bs' : List Value) (q r' : Bool), ar = a :: ar' → bs = b :: bs' → Fo P (f.offset + 1) fs = some ts' → CL ts' ar' bs' = some r' → CH P f.type false = true → (Op.equalIn (d + 1) f.type a b).run P w = .ok q w →
     (Op.eqFields (d + 1) xs ys (f :: fs)).run P w = .ok (q && r') w := by
    intro ts' a b ar' bs' q r' ha hb htl hel hag heq
    subst ha; subst hb
    have h1 : xs[f.offset]? = some a := hx 0 a rfl
    have h2 : ys[f.offset]? = some b := hy 0 b rfl
    simp only [Op.eqFields, hn1, ne_eq, not_false_eq_true, if_true]
    refine Ag (JM hag h1 w) (Ag (JM hag h2 w) (Ag heq ?_))
    cases q
    ·simp
    ·simp only [Bool.not_true, Bool.false_eq_true, if_false, Bool.true_and]
     exact Io d xs ys w fs ts' (f.offset + 1) ar' bs' r' htl (fun j v hj => by rw [show f.offset + 1 + j = f.offset + (j + 1) from by omega]; exact hx (j + 1) v hj) (fun j v hj => by rw [show f.offset + 1 + j = f.offset + (j + 1) from by omega]; exact hy (j + 1) v hj) hel
   split at ht
   ·rename_i kk hu
    cases htl : Fo P (f.offset + 1) fs with
    | none => rw [htl] at ht; cases ht
    | some ts' =>
     rw [htl] at ht; cases ht
     obtain ⟨k1, a1, ar', b1, bs', r', e1, e2, hel, rfl⟩ := Mx he
     subst e1; subst e2
     exact step ts' _ _ ar' bs' _ r' rfl rfl htl hel (by unfold CH; rw [hu]; rfl) (run_equalIn_int w d f.type k1 kk a1 b1 hu)
   ·rename_i hu
    cases htl : Fo P (f.offset + 1) fs with
    | none => rw [htl] at ht; cases ht
    | some ts' =>
     rw [htl] at ht; cases ht
     obtain ⟨a1, ar', b1, bs', r', e1, e2, hel, rfl⟩ := M5 he
     subst e1; subst e2
     exact step ts' _ _ ar' bs' _ r' rfl rfl htl hel (by unfold CH; rw [hu]; rfl) (run_equalIn_bool' w d f.type a1 b1 hu)
   ·rename_i hu
    cases htl : Fo P (f.offset + 1) fs with
    | none => rw [htl] at ht; cases ht
    | some ts' =>
     rw [htl] at ht; cases ht
     obtain ⟨a1, ar', b1, bs', r', e1, e2, hel, rfl⟩ := Mn he
     subst e1; subst e2
     exact step ts' _ _ ar' bs' _ r' rfl rfl htl hel (by unfold CH; rw [hu]; rfl) (run_equalIn_string w d f.type a1 b1 hu)
   ·cases ht
theorem Hj {t : TypeId} {ts : List Nat} (h : Mm P t = some ts) {ar bs : List Value} {r : Bool} (hr : CL ts ar bs = some r) (w : World) :
  (Op.equalIn 10000 t (.agg ar.toArray) (.agg bs.toArray)).run P w = .ok r w ∧ P.eqGuardType P.depth t = false := by
 unfold Mm at h
 split at h
 ·rename_i fs hu
  split at h
  ·cases h
  ·rename_i hn
   simp only [Bool.or_eq_true, not_or, Bool.not_eq_true] at hn
   have hf : P.fieldsOf t = fs := by unfold Program.fieldsOf; rw [hu]
   refine ⟨?_, hn.2⟩
   rw [run_equalIn_struct w 9999 t _ _ (by rw [hf]; exact hu) hn.1, hf]
   exact Io 9998 _ _ w fs.toList ts 0 ar bs r h (fun j v hj => by simpa using hj) (fun j v hj => by simpa using hj) hr
 ·cases h
abbrev aD (ar : List Value) : D := .e (.agg (ar.map fun v => .pure (.val v)))
theorem JR {w : World} {G : Gh} {v : Value} {ar : List Value} (h : DZ P w G v (aD ar)) : v = .agg ar.toArray := by
 obtain ⟨vs, rfl, hs, h⟩ := h
 congr 1
 have hs' : vs.size = ar.length := by simpa using hs
 apply Array.ext
 ·simpa using hs'
 ·intro j h1 h2
  have hj : j < ar.length := by omega
  have : CD P w G (Ah vs j) (.pure (.val ar[j])) := h j _ (by simp [hj])
  have h3 := Fm (this : Co w G.S _ (.val _))
  simpa [Ah, h1] using h3
section run
variable {dr : Bool} {Q : St → Prop} {r i : Nat} {st : St} {log : List (Nat × Bz)} {o : Oper} {gs : List (Operand × D)}
theorem Qc {xt yt : TypeId} {x y : Operand} {s : Nat} {ts : List Nat} {b : Bool} (ar bs : List Value) (hat : At st.env ops i X.n (.binOp .eql xt x y yt) s gs)
  (hx : opd st.env x = some (aD ar)) (hy : opd st.env y = some (aD bs)) (ht : Mm P xt = some ts) (he : CL ts ar bs = some b)
  (next : AV P X ops dr Q r (i + 1) (Bz.upd ⟨gs ++ [(x, aD ar), (y, aD bs)], [], some s, some (bD b), [], []⟩ st) ((i, ⟨gs ++ [(x, aD ar), (y, aD bs)], [], some s, some (bD b), [], []⟩) :: log)) : AV P X ops dr Q (r + 1) i st log := by
 obtain ⟨o, ho, hop, hd, hn, hg, hgp⟩ := hat.out
 refine AV.step next ⟨Ad.2 ⟨hgp, hx, hy, trivial⟩, trivial, trivial⟩ (LR.value ho hg rfl hd.symm (Cm hd hn) ?_)
 intro G st a w hs hpre
 obtain ⟨hx, hy, _⟩ := (Ad.1 hpre.r).2
 have hX := JR (hs.opd hx)
 have hY := JR (hs.opd hy)
 obtain ⟨h1, h2⟩ := Hj ht he w
 refine ⟨.bool b, w, G, ?_, hs, ?_⟩
 ·simp only [execOp, hop, hX, hY]
  refine Ag (a := .bool b) (w1 := w) (Ag (run_eqGuard_agg w .eql xt x y _ _ h2) ?_) rfl
  rw [run_eql_struct, h1]; rfl
 ·rintro d ⟨⟩
  exact ⟨.val _ rfl, fun b hb => by cases hb⟩
theorem P3 {xt yt : TypeId} {x y : Operand} {s : Nat} {ts : List Nat} {b : Bool} (ar bs : List Value) (hat : At st.env ops i X.n (.binOp .neq xt x y yt) s gs)
  (hx : opd st.env x = some (aD ar)) (hy : opd st.env y = some (aD bs)) (ht : Mm P xt = some ts) (he : CL ts ar bs = some b)
  (next : AV P X ops dr Q r (i + 1) (Bz.upd ⟨gs ++ [(x, aD ar), (y, aD bs)], [], some s, some (bD (!b)), [], []⟩ st) ((i, ⟨gs ++ [(x, aD ar), (y, aD bs)], [], some s, some (bD (!b)), [], []⟩) :: log)) : AV P X ops dr Q (r + 1) i st log := by
 obtain ⟨o, ho, hop, hd, hn, hg, hgp⟩ := hat.out
 refine AV.step next ⟨Ad.2 ⟨hgp, hx, hy, trivial⟩, trivial, trivial⟩ (LR.value ho hg rfl hd.symm (Cm hd hn) ?_)
 intro G st a w hs hpre
 obtain ⟨hx, hy, _⟩ := (Ad.1 hpre.r).2
 have hX := JR (hs.opd hx)
 have hY := JR (hs.opd hy)
 obtain ⟨h1, h2⟩ := Hj ht he w
 refine ⟨.bool (!b), w, G, ?_, hs, ?_⟩
 ·simp only [execOp, hop, hX, hY]
  refine Ag (a := .bool (!b)) (w1 := w) (Ag (run_eqGuard_agg w .neq xt x y _ _ h2) ?_) rfl
  rw [run_neq_struct, h1]; rfl
 ·rintro d ⟨⟩
  exact ⟨.val _ rfl, fun b hb => by cases hb⟩
theorem Lr {xt yt : TypeId} {x : Operand} {s e : Nat} {rows : List (List T)} (hat : At st.env ops i X.n (.binOp .eql xt x (.const (.slice none 0 0)) yt) s gs)
  (hx : opd st.env x = some (one (.sl rows))) (ht : Bb P xt e = true)
  (next : AV P X ops dr Q r (i + 1) (Bz.upd ⟨gs ++ [(x, one (.sl rows))], [], some s, some (.e (.one (.nilq (rows = [])))), [], []⟩ st) ((i, ⟨gs ++ [(x, one (.sl rows))], [], some s, some (.e (.one (.nilq (rows = [])))), [], []⟩) :: log)) : AV P X ops dr Q (r + 1) i st log := by
 obtain ⟨o, ho, hop, hd, hn, hg, hgp⟩ := hat.out
 refine AV.step next ⟨Ad.2 ⟨hgp, hx, trivial⟩, trivial, trivial⟩ (LR.value ho hg rfl hd.symm (Cm hd hn) ?_)
 intro G st a w hs hpre
 obtain ⟨hx, _⟩ := (Ad.1 hpre.r).2
 have hX : Co w G.S (a.eval x) (.sl rows) := hs.opd hx
 obtain ⟨av, l, c, hv, hq⟩ : ∃ av l c, a.eval x = .slice av l c ∧ (av.isNone = true → rows = []) := by
  generalize a.eval x = v at hX
  cases hX with
  | nil av cap => exact ⟨av, 0, cap, rfl, fun _ => rfl⟩
  | sl β off cap e arr el fz rows h1 h2 h3 h4 h5 h6 => exact ⟨_, _, _, rfl, fun h => by cases h⟩
 have hu : P.underlying xt = some (.slice e) := by
  unfold Bb at ht
  split at ht
  ·rename_i e' he; rw [he]; simp at ht; rw [ht]
  ·cases ht
 refine ⟨.bool av.isNone, w, G, ?_, hs, ?_⟩
 ·simp only [execOp, hop, hv]
  refine Ag (a := .bool av.isNone) (w1 := w) (Ag (a := ()) (w1 := w) (by simp [eqGuard]) ?_) rfl
  have h1 : (Op.equalIn (9999 + 1) xt (.slice av l c) (.slice none 0 0)).run P w = .ok av.isNone w := by
   generalize 9999 = dd
   cases av <;> (unfold Op.equalIn; exact Ag (AN hu w) rfl)
  simp only [binOp, Act.eval]
  refine Ag (a := av.isNone) (w1 := w) ?_ rfl
  exact h1
 ·rintro d ⟨⟩
  exact ⟨⟨_, rfl, hq⟩, fun b hb => by cases hb⟩
end run
theorem Ls {c : Operand} {x y : Code} {Q : Exit → St → Prop} {st : St} {p : Prop} (hc : opd st.env c = some (.e (.one (.nilq p)))) (ht : p → W P X x Q st) (hf : W P X y Q st) : W P X (.cond c x y) Q st := by
 intro a w hs
 obtain ⟨b, hcv, hp⟩ : ∃ b, a.eval c = .bool b ∧ (b = true → p) := by
  obtain ⟨G, hs⟩ := hs
  exact hs.opd hc
 cases b with
 | true => exact wp_cond_true hcv (ht (hp rfl) a w hs)
 | false => exact wp_cond_false hcv (hf a w hs)
end Go.Lift
namespace Go.Lift
open List renaming mem_of_getElem? → lM
open Go.RowKit
variable {P : Program} {X : EM} {ops : Array Oper}
def K3 : Bool × List T → D
 | (true, ts) => .e (.agg (ts.map .pure))
 | (false, ts) => .e (.one (.pure (ts.headD .nil0)))
def Ox : Bool × List T → Bool
 | (true, _) => true
 | (false, ts) => match ts with | [_] => true | _ => false
theorem OV {w : World} {S : Nat → Prop} {G : Gh} {v : Value} {x : Bool × List T} (h : DZ P w G v (K3 x)) (hS : ∀ β, G.S β → S β) (hx : Ox x = true) : PC w S v x := by
 obtain ⟨b, ts⟩ := x
 cases b with
 | false =>
  match ts, hx with
  | [t], _ => exact ⟨t, rfl, Co.mono (show Co w G.S v t from h) (fun _ _ => rfl) hS⟩
 | true =>
  obtain ⟨vs, e, hs, h⟩ := h
  refine ⟨vs, e, by simpa using hs, fun j t hj => ?_⟩
  have : CD P w G (Ah vs j) (.pure t) := h j (.pure t) (by simp [hj])
  exact Co.mono this (fun _ _ => rfl) hS
theorem Pl {w : World} {S : Nat → Prop} {v : Value} {x : Bool × List T} (h : PC w S v x) : DZ P w (G0 S) v (K3 x) := by
 obtain ⟨b, ts⟩ := x
 cases b with
 | false =>
  obtain ⟨t, rfl, h⟩ := h
  exact h
 | true =>
  obtain ⟨vs, e, hs, h⟩ := h
  refine ⟨vs, e, by simpa using hs, fun j c hj => ?_⟩
  rw [List.getElem?_map] at hj
  cases hx : ts[j]? with
  | none => rw [hx] at hj; cases hj
  | some t => rw [hx] at hj; cases hj; exact h j t hx
noncomputable def KQ {α ρ : Type} (ea : α → List (Bool × List T)) (er : ρ → T) (q : α → Option ρ) : List (Bool × List T) → Option T := fun ar =>
 open Classical in if h : ∃ x r, ea x = ar ∧ q x = some r then some (er (Classical.choose (Classical.choose_spec h))) else none
theorem L2 {α ρ : Type} {ea : α → List (Bool × List T)} {er : ρ → T} {q : α → Option ρ} {ar : List (Bool × List T)} {t : T} (h : KQ ea er q ar = some t) : ∃ x r, ar = ea x ∧ q x = some r ∧ t = er r := by
 unfold KQ at h
 split at h
 ·rename_i hx
  cases h
  have := Classical.choose_spec (Classical.choose_spec hx)
  exact ⟨_, _, this.1.symm, this.2, rfl⟩
 ·cases h
theorem Nr {α ρ : Type} {ea : α → List (Bool × List T)} {er : ρ → T} {q : α → Option ρ} (inj : ∀ x y, ea x = ea y → x = y) {x : α} {r : ρ} (h : q x = some r) : KQ ea er q (ea x) = some (er r) := by
 have hx : ∃ y s, ea y = ea x ∧ q y = some s := ⟨x, r, rfl, h⟩
 unfold KQ
 rw [dif_pos hx]
 have h1 := Classical.choose_spec (Classical.choose_spec hx)
 have h2 := inj _ _ h1.1
 have h3 : q (Classical.choose hx) = some r := by rw [h2]; exact h
 exact congrArg (fun z => some (er z)) (Option.some.inj (h3.symm.trans h1.2)).symm
structure Qo {α β : Type} (f : α → β) : Prop where
 inj : ∀ x y, f x = f y → x = y
def OG {α : Type} (b : Bool) (e : α → List T) (x : α) : List (Bool × List T) := [(b, e x)]
theorem Nt {α : Type} (b : Bool) (e : α → List T) (h : Qo e) : ∀ x y, OG b e x = OG b e y → x = y := by
 intro x y hxy
 simp only [OG, List.cons.injEq, Prod.mk.injEq, true_and, and_true] at hxy
 exact h.inj _ _ hxy
theorem Lz {α β : Type} {f : α → β} (h : ∀ x y, f x = f y → x = y) : ∀ (xs ys : List α), xs.map f = ys.map f → xs = ys
 | [], [], _ => rfl
 | [], _ :: _, e => by cases e
 | _ :: _, [], e => by cases e
 | x :: xs, y :: ys, e => by
  simp only [List.map_cons, List.cons.injEq] at e
  rw [h _ _ e.1, Lz h _ _ e.2]
def Ql (P : Program) : List D → List D → Prop
 | [], [] => True
 | a :: ar, b :: bs => (∀ (w : World) (S : Nat → Prop) (v : Value), DZ P w (G0 S) v a → DZ P w (G0 S) v b) ∧ Ql P ar bs
 | _, _ => False
theorem Ql.get : ∀ {ar bs : List D}, Ql P ar bs → ar.length = bs.length ∧ ∀ (j : Nat) (b : D), bs[j]? = some b → ∃ a, ar[j]? = some a ∧ ∀ (w : World) (S : Nat → Prop) (v : Value), DZ P w (G0 S) v a → DZ P w (G0 S) v b
 | [], [], _ => ⟨rfl, fun j b h => by simp at h⟩
 | a :: ar, b :: bs, h => by
  obtain ⟨h1, h2⟩ := Ql.get h.2
  refine ⟨by simp [h1], fun j c hj => ?_⟩
  cases j with
  | zero => simp at hj; subst hj; exact ⟨a, rfl, h.1⟩
  | succ j => obtain ⟨a', g1, g2⟩ := h2 j c (by simpa using hj); exact ⟨a', by simpa using g1, g2⟩
section run
variable {dr : Bool} {Q : St → Prop} {r i : Nat} {st : St} {log : List (Nat × Bz)} {o : Oper} {gs : List (Operand × D)}
theorem Lb {f : FuncId} (h : AS P f = true) : ∃ fn, P.funcs[f]? = some fn ∧ fn.body.isSome = true ∧ (fn.name == "runtime.NumGoroutine") = false := by
 unfold AS at h
 split at h
 ·rename_i fn hf
  simp only [Bool.and_eq_true, Bool.not_eq_true'] at h
  exact ⟨fn, hf, h.2, h.1⟩
 ·cases h
theorem La {f : FuncId} {s : Nat} {xs : List Operand} {capD : List D} (g : List (Bool × List T) → Option T) (hat : At st.env ops i X.n (.makeFunc (.func f) #[] xs.toArray) s gs)
  (hf : AS P f = true) (hl : xs.length = capD.length) (hx : Eu st.env (Fs xs capD)) (hpub : capD.all L8 = true)
  (hclo : ∀ ar t, g ar = some t → Au P f (ar.map K3 ++ capD) [] (one t))
  (next : AV P X ops dr Q r (i + 1) (Bz.upd ⟨gs ++ Fs xs capD, [], some s, some (.e (.one (.clo g))), [], []⟩ st) ((i, ⟨gs ++ Fs xs capD, [], some s, some (.e (.one (.clo g))), [], []⟩) :: log)) : AV P X ops dr Q (r + 1) i st log := by
 obtain ⟨o, ho, hop, hd, hn, hg, hgp⟩ := hat.out
 refine AV.step next ⟨Ad.2 ⟨hgp, hx⟩, trivial, trivial⟩ (LR.value ho hg rfl hd.symm (Cm hd hn) ?_)
 intro G st a w hs hpre
 have hx := (Ad.1 hpre.r).2
 refine ⟨.func (.func f) #[] (xs.toArray.map a.eval), w, G, ?_, hs, ?_⟩
 ·simp only [execOp, hop]
  exact Ag (a := .func (.func f) #[] (xs.toArray.map a.eval)) (w1 := w) (by simp [Instr.makeFunc]) rfl
 ·rintro d ⟨⟩
  refine ⟨⟨f, _, rfl, Lb hf, ?_⟩, fun b hb => by cases hb⟩
  intro w' S' hS' hw' hlt vs ar r0 hvs has hgr
  refine (hclo ar r0 hgr w' S' (vs ++ xs.toArray.map a.eval) hlt (by simp [hvs, hl]) ?_).mono ?_
  ·intro j d hj
   by_cases hja : j < ar.length
   ·rw [List.getElem?_append_left (by simpa using hja), List.getElem?_map] at hj
    have hx0 : ar[j]? = some ar[j] := by simp [hja]
    rw [hx0] at hj; cases hj
    rw [Bc (by omega)]
    exact Pl (has j _ hx0)
   ·rw [List.getElem?_append_right (by simp; omega)] at hj
    simp only [List.length_map] at hj
    have hlt' := Al hj
    have hxj : xs[j - ar.length]? = some (xs[j - ar.length]'(by omega)) := by simp [show j - ar.length < xs.length from by omega]
    have hop' := FD hl hx _ _ d hxj hj
    have hcell : Ah (vs ++ xs.toArray.map a.eval) j = a.eval (xs[j - ar.length]'(by omega)) := by
     unfold Ah
     rw [Array.getElem?_append_right (by omega), hvs]
     simp [show j - ar.length < xs.length from by omega]
    rw [hcell]
    have hcl : d.names = [] := by
     have := List.all_eq_true.1 hpub d (lM hj)
     simpa [L8] using this
    exact ((hs.opd hop').mono (p := fun _ => False) (G' := G0 S') ⟨hS', fun _ h => h.elim, fun _ h => h.elim, fun _ h => h.elim⟩ hw' (fun b hb => by rw [hcl] at hb; cases hb))
  ·rintro e w'' ⟨v, G', rfl, hbel, h1, h2, h3, _⟩
   exact ⟨v, G'.S, rfl, hbel, h1, h2, h3⟩
theorem Or {x : Operand} {g : List (Bool × List T) → Option T} {s : Nat} {xs : List Operand} {ds0 : List D} {ar : List (Bool × List T)} {r0 : T} {ts : Array TypeId} (hat : At st.env ops i X.n (.call ⟨.value x, xs.toArray, ts⟩) s gs)
  (hgx : opd st.env x = some (.e (.one (.clo g)))) (hl : xs.length = ds0.length) (hx : Eu st.env (Fs xs ds0)) (hds : ds0.map D.nrm = ar.map K3) (_hpub : (ar.map K3).all L8 = true) (hok : ar.all Ox = true) (hr : g ar = some r0)
  (next : AV P X ops dr Q r (i + 1) (Bz.upd ⟨gs ++ ((x, .e (.one (.clo g))) :: Fs xs ds0), [], some s, some (one r0), [], []⟩ st) ((i, ⟨gs ++ ((x, .e (.one (.clo g))) :: Fs xs ds0), [], some s, some (one r0), [], []⟩) :: log)) : AV P X ops dr Q (r + 1) i st log := by
 obtain ⟨o, ho, hop, hd, hn, hg, hgp⟩ := hat.out
 refine AV.step next ⟨Ad.2 ⟨hgp, hgx, hx⟩, trivial, trivial⟩ ?_
 intro st a w K Q' hs hpre hK
 obtain ⟨G, hs⟩ := hs
 obtain ⟨hgx, hx⟩ := (Ad.1 hpre.r).2
 have hw := hs.wanted hg (Ad.1 hpre.r).1
 unfold wpOp
 rw [ho]
 simp only [hw, if_true]
 refine .inl ?_
 unfold Oper.wp
 obtain ⟨f, caps, hv, ⟨fn, hf1, hf2, hf3⟩, hcall⟩ : GE P w G.S (a.eval x) g := hs.opd hgx
 have hgood : AS P f = true := by unfold AS; rw [hf1]; simp [hf2]; simpa using hf3
 have hrun : (execOp a.eval o).run P w = .ok (.enter f (xs.toArray.map a.eval ++ caps)) w := by
  simp only [execOp, hop]
  simp only [resolve, hv, Deferred.ofValue]
  refine Ag (a := { target := .fn (.func f) caps, args := #[] ++ xs.toArray.map a.eval }) (w1 := w) rfl ?_
  simp only [invoke]
  rw [G6 hgood]; simp
 rw [hrun]
 show Calls P f (xs.toArray.map a.eval ++ caps) w _
 have hlen : xs.length = ar.length := by
  have := congrArg List.length hds
  simp at this; omega
 refine (hcall w G.S (fun _ h => h) (fun _ _ => rfl) hs.S_lt (xs.toArray.map a.eval) ar r0 (by simp [hlen]) ?_ hr).mono ?_
 ·intro j y hj
  have hlt := Al hj
  have hd0 : ds0[j]? = some (ds0[j]'(by omega)) := by simp [show j < ds0.length from by omega]
  have hnrm : (ds0[j]'(by omega)).nrm = K3 y := by
   have h1 : (ds0.map D.nrm)[j]? = (ar.map K3)[j]? := by rw [hds]
   rw [List.getElem?_map, List.getElem?_map, hd0, hj] at h1
   simpa using h1
  have hxj : xs[j]? = some (xs[j]'(by omega)) := by simp [show j < xs.length from by omega]
  have hop' := FD hl hx j _ _ hxj hd0
  have hcell : Ah (xs.toArray.map a.eval) j = a.eval (xs[j]'(by omega)) := by simp [Ah, show j < xs.length from by omega]
  rw [hcell]
  have hrd := (hs.opd hop').nrm
  rw [hnrm] at hrd
  exact OV hrd (fun _ h => h) (List.all_eq_true.1 hok y (lM hj))
 ·rintro e w' ⟨v, S'', rfl, hbel, hS1, hS2, hres⟩
  show K (a.put o.dst v) w'
  rw [hd]
  let G2 : Gh := { G with S := S'' }
  have hsz := hbel.size
  have hle := hs.below.size
  have key : BT P X G2 ⟨st.env, AT st.bx []⟩ a w' := by
   refine hs.frame (fun c hc => hc) ⟨hS1, fun _ _ => rfl, fun _ _ => rfl, fun _ _ => rfl⟩ (fun β hβ => hbel.block β (hs.S_lt β hβ)) ?_ ?_ ?_ ?_ ?_ (hs.below.trans (.of (hbel.mono hle))) (fun _ _ => ⟨rfl, rfl, rfl⟩)
   ·intro c k hc
    exact .inl ⟨hc, fun β hr hβ => hbel.block β (hs.at_ok c k β hc hr hβ).2.1⟩
   ·intro c k β hc hr hβ
    have := hs.at_ok c k β hc hr hβ
    refine ⟨this.1, by omega, fun h => ?_⟩
    rcases hS2 β h with h | h
    ·exact this.2.2 h
    ·omega
   ·intro c c' k k' β hc hc' hr hr' hβ hβ'
    exact hs.at_inj c c' k k' β hc hc' hr hr' hβ hβ'
   ·intro β h
    rcases hS2 β h with h | h
    ·have := hs.S_lt β h; omega
    ·exact h.2
   ·intro β h
    rcases hS2 β h with h | h
    ·exact hs.S_src β h
    ·exact .inr (by omega)
  refine hK _ _ ⟨G2, key.put (some s) (some (one r0)) v (by intro t e; cases e; exact hn) ?_⟩
  rintro d ⟨⟩
  exact ⟨hres, fun b hb => by cases hb⟩
end run
end Go.Lift
namespace Go.Lift
open Go.RowKit Go.ChangeShapes Go.WideShapes
section
variable {P : Program}
def Hf (P : Program) : Nat → List Field → Nat → Bool
 | o, [], n => o == n
 | o, f :: fs, n => f.offset == o && Hf P (o + P.cellsOf f.type) fs n
def Fn (P : Program) : Nat → TypeId → Bool
 | 0, _ => false
 | d + 1, t => match P.underlying t with
  | some (.int _) => true
  | some .bool => true
  | some .string => true
  | some (.slice e) => decide (0 < P.cellsOf e) && Fn P d e
  | some (.struct fs) => Hf P 0 fs.toList (P.cellsOf t) && fs.toList.all fun f => Fn P d f.type
  | _ => false
def NA (F : TypeId → List T → Prop) : List TypeId → List T → Prop
 | [], ts => ts = []
 | t :: tys, ts => ∃ a b, ts = a ++ b ∧ F t a ∧ NA F tys b
def F7 (P : Program) : Nat → TypeId → List T → Prop
 | 0, _, _ => False
 | d + 1, t, ts => match P.underlying t with
  | some (.int k) => ∃ n, ts = [.val (.int k n)] ∧ (Lit.int k n).wf = true
  | some .bool => ∃ b, ts = [.val (.bool b)]
  | some .string => ∃ s, ts = [.val (.string s)]
  | some (.slice e) => ∃ rows, ts = [.sl rows] ∧ ∀ row, row ∈ rows → F7 P d e row
  | some (.struct fs) => NA (F7 P d) (fs.toList.map (·.type)) ts
  | _ => False
def ED (w : World) (S : Nat → Prop) : List Value → List T → Prop
 | [], [] => True
 | v :: vs, t :: ts => Co w S v t ∧ ED w S vs ts
 | _, _ => False
theorem ED.append {w : World} {S : Nat → Prop} : ∀ {a b : List Value} {x y : List T}, ED w S a x → ED w S b y → ED w S (a ++ b) (x ++ y)
 | [], _, [], _, _, h => h
 | _ :: _, _, _ :: _, _, h1, h2 => ⟨h1.1, ED.append h1.2 h2⟩
theorem ED.len {w : World} {S : Nat → Prop} : ∀ {a : List Value} {x : List T}, ED w S a x → a.length = x.length
 | [], [], _ => rfl
 | _ :: _, _ :: _, h => by simp [h.2.len]
theorem ED.get {w : World} {S : Nat → Prop} : ∀ {a : List Value} {x : List T}, ED w S a x → ∀ (j : Nat) (t : T), x[j]? = some t → ∃ v, a[j]? = some v ∧ Co w S v t
 | [], [], _, j, t, hj => by simp at hj
 | v :: _, _ :: _, h, 0, t, hj => by simp at hj; subst hj; exact ⟨v, rfl, h.1⟩
 | _ :: _, _ :: _, h, j + 1, t, hj => by
  obtain ⟨v, h1, h2⟩ := h.2.get j t (by simpa using hj)
  exact ⟨v, by simpa using h1, h2⟩
theorem H5 {α : Type} {p : Nat → α → Prop} : ∀ (n : Nat), (∀ i, i < n → ∃ x, p i x) → ∃ l : List α, l.length = n ∧ ∀ i x, l[i]? = some x → p i x
 | 0, _ => ⟨[], rfl, fun i x h => by simp at h⟩
 | n + 1, h => by
  obtain ⟨l, h1, h2⟩ := H5 n (fun i hi => h i (by omega))
  obtain ⟨x, hx⟩ := h n (by omega)
  refine ⟨l ++ [x], by simp [h1], fun i y hi => ?_⟩
  by_cases hlt : i < l.length
  ·rw [List.getElem?_append_left hlt] at hi; exact h2 i y hi
  ·rw [List.getElem?_append_right (by omega)] at hi
   have : i - l.length = 0 := by
    have := Al hi
    simp at this; omega
   rw [this] at hi
   simp at hi; subst hi
   have : i = n := by omega
   subst this; exact hx
theorem Ge {α : Type} {f : Nat → Option α} : ∀ {n : Nat} {l : List α}, (List.range n).mapM f = some l → l.length = n ∧ ∀ i, i < n → f i = l[i]? := by
 intro n l h
 have h1 := mapM_some_length h
 refine ⟨by simpa using h1, fun i hi => ?_⟩
 exact mapM_some_get h i i (by simp [hi])
theorem Kr {w : World} {b o : Nat} {v : Value} (h : w.cell? ⟨b, o, none⟩ = some v) : ∃ arr el fz, w.heap[b]? = some (.cells arr el fz) ∧ arr[o]? = some v := by
 unfold World.cell? at h
 split at h
 ·rename_i c el fz hc
  exact ⟨c, el, fz, hc, by simpa using h⟩
 ·cases h
theorem Nu {w : World} {b : Nat} {o : Obj} (h : w.heap[b]? = some o) : b < w.heap.size := by
 rcases Nat.lt_or_ge b w.heap.size with h1 | h1
 ·exact h1
 ·rw [Array.getElem?_eq_none h1] at h; cases h
abbrev L9 (w : World) : Nat → Prop := fun β => β < w.heap.size
theorem Jj {H : Type} {enc : TypeId × Value → H} {w : World} {sp : Nat → Bool} {held : Bool} {n d : Nat} {cs : List Value}
  (ih : ∀ (t : TypeId) (cs : List Value) (x : DataW H × List MemPlace), Fn P d t = true → DataW.trod enc P w 0 sp held n t cs = some x → ∃ ts, ED w (L9 w) cs ts ∧ F7 P d t ts) :
  ∀ (fs : List Field) (o : Nat), Hf P o fs cs.length = true → (fs.all fun f => Fn P d f.type) = true →
   (∀ f, f ∈ fs → ∃ x, DataW.trod enc P w 0 sp held n f.type ((cs.drop f.offset).take (P.cellsOf f.type)) = some x) →
   ∃ ts, ED w (L9 w) (cs.drop o) ts ∧ NA (F7 P d) (fs.map (·.type)) ts
 | [], o, hc, _, _ => by
  simp only [Hf, beq_iff_eq] at hc
  refine ⟨[], ?_, rfl⟩
  rw [List.drop_eq_nil_of_le (by omega)]; trivial
 | f :: fs, o, hc, hp, hx => by
  simp only [Hf, Bool.and_eq_true, beq_iff_eq] at hc
  simp only [List.all_cons, Bool.and_eq_true] at hp
  obtain ⟨x, hx0⟩ := hx f (by simp)
  rw [hc.1] at hx0
  obtain ⟨ts, h1, h2⟩ := ih _ _ _ hp.1 hx0
  obtain ⟨us, h3, h4⟩ := Jj ih fs _ hc.2 hp.2 (fun g hg => hx g (by simp [hg]))
  refine ⟨ts ++ us, ?_, ⟨ts, us, rfl, h2, h4⟩⟩
  have : cs.drop o = (cs.drop o).take (P.cellsOf f.type) ++ cs.drop (o + P.cellsOf f.type) := by
   rw [← List.drop_drop, List.take_append_drop]
  rw [this]
  exact h1.append h3
theorem Kd {H : Type} {enc : TypeId × Value → H} {w : World} {sp : Nat → Bool} {held : Bool} : ∀ (d fuel : Nat) (t : TypeId) (cs : List Value) (x : DataW H × List MemPlace), Fn P d t = true → DataW.trod enc P w 0 sp held fuel t cs = some x → ∃ ts, ED w (L9 w) cs ts ∧ F7 P d t ts
 | 0, _, _, _, _, hp, _ => by cases hp
 | d + 1, fuel, t, cs, x, hp, hx => by
  unfold Fn at hp
  unfold F7
  split at hp
  ·rename_i k hu
   obtain ⟨n, rfl, _, hw⟩ := DataW.trod_int hu hx
   exact ⟨[.val (.int k n)], ⟨.val _ rfl, trivial⟩, n, rfl, hw⟩
  ·rename_i hu
   obtain ⟨b, rfl, _⟩ := DataW.trod_bool hu hx
   exact ⟨[.val (.bool b)], ⟨.val _ rfl, trivial⟩, b, rfl⟩
  ·rename_i hu
   obtain ⟨b, rfl, _⟩ := DataW.trod_string hu hx
   exact ⟨[.val (.string b)], ⟨.val _ rfl, trivial⟩, b, rfl⟩
  ·rename_i e hu
   simp only [Bool.and_eq_true, decide_eq_true_eq] at hp
   rcases DataW.trod_slice hu hx with ⟨rfl, _⟩ | ⟨a, len, cap, elems, rest, n, rfl, rfl, _, _, hl, _, hlen, hel, _, _⟩
   ·exact ⟨[.sl []], ⟨.nil none 0, trivial⟩, [], rfl, fun row h => by cases h⟩
   ·have hrow : ∀ i, i < len → ∃ row, ∃ csi, w.cells? 0 (a.add (i * P.cellsOf e)) (P.cellsOf e) = some csi ∧ ED w (L9 w) csi row ∧ F7 P d e row := by
     intro i hi
     have h1 := hel i hi
     have h2 : elems[i]? = some (elems[i]'(by omega)) := by simp [show i < elems.length from by omega]
     rw [h2] at h1
     obtain ⟨csi, h3, h4⟩ := Option.bind_eq_some_iff.1 h1
     obtain ⟨row, h5, h6⟩ := Kd d n e csi _ hp.2 h4
     exact ⟨row, csi, h3, h5, h6⟩
    obtain ⟨rows, hrl, hrows⟩ := H5 len hrow
    subst hrl
    refine ⟨[.sl rows], ⟨?_, trivial⟩, rows, rfl, fun row hm => ?_⟩
    ·cases hr0 : rows with
     | nil => exact .nil _ _
     | cons r0 rs0 =>
      rw [← hr0]
      have hpos : 0 < rows.length := by rw [hr0]; simp
      -- each cell
      have hcell : ∀ (i : Nat) (row : List T) (j : Nat) (u : T), rows[i]? = some row → row[j]? = some u → j < P.cellsOf e ∧ ∃ v, w.cell? ((a.add (i * P.cellsOf e)).add j) = some v ∧ Co w (L9 w) v u := by
       intro i row j u hi hj
       obtain ⟨csi, h1, h2, _⟩ := hrows i row hi
       obtain ⟨v, h3, h4⟩ := h2.get j u hj
       unfold World.cells? at h1
       rw [if_pos (Nat.zero_le _)] at h1
       obtain ⟨h5, h6⟩ := Ge h1
       have hjl : j < P.cellsOf e := by have := Al h3; omega
       exact ⟨hjl, v, by rw [h6 j hjl, h3], h4⟩
      have hrlen : ∀ (i : Nat) (row : List T), rows[i]? = some row → row.length = P.cellsOf e := by
       intro i row hi
       obtain ⟨csi, h1, h2, _⟩ := hrows i row hi
       unfold World.cells? at h1
       rw [if_pos (Nat.zero_le _)] at h1
       obtain ⟨h5, _⟩ := Ge h1
       rw [← h2.len, h5]
      have hget : ∀ i (hi : i < rows.length), rows[i]? = some (rows[i]'hi) := fun i hi => by simp [hi]
      have hr00 := hget 0 hpos
      have hl0 := hrlen 0 _ hr00
      obtain ⟨_, v0, hv0, _⟩ := hcell 0 _ 0 ((rows[0]'hpos)[0]'(by omega)) hr00 (by simp)
      have hadd0 : (a.add (0 * P.cellsOf e)).add 0 = a := by simp [Addr.add]
      rw [hadd0] at hv0
      have hspot := World.cell?_spot hv0
      obtain ⟨β, off, spot⟩ := a
      simp only at hspot
      subst hspot
      obtain ⟨arr, el, fz, hb, _⟩ := Kr hv0
      have hadd : ∀ i j : Nat, ((⟨β, off, none⟩ : Addr).add (i * P.cellsOf e)).add j = ⟨β, off + i * P.cellsOf e + j, none⟩ := by
       intro i j
       unfold Addr.add
       split
       ·rename_i h1
        split
        ·rename_i h2; rw [h2]; simp
        ·rename_i h2; simp only [Addr.mk.injEq, true_and, and_true]; omega
       ·split <;> simp_all <;> omega
      have hat : ∀ (i : Nat) (row : List T) (j : Nat) (u : T), rows[i]? = some row → row[j]? = some u → off + i * P.cellsOf e + j < arr.size ∧ Co w (L9 w) (Ah arr (off + i * P.cellsOf e + j)) u := by
       intro i row j u hi hj
       obtain ⟨_, v, h1, h2⟩ := hcell i row j u hi hj
       rw [hadd] at h1
       obtain ⟨arr', el', fz', h3, h4⟩ := Kr h1
       rw [hb] at h3; cases h3
       have hlt : off + i * P.cellsOf e + j < arr.size := by
        rcases Nat.lt_or_ge (off + i * P.cellsOf e + j) arr.size with h | h
        ·exact h
        ·rw [Array.getElem?_eq_none h] at h4; cases h4
       refine ⟨hlt, ?_⟩
       have : Ah arr (off + i * P.cellsOf e + j) = v := by unfold Ah; rw [h4]; rfl
       rw [this]; exact h2
      refine .sl β off cap (P.cellsOf e) arr el fz rows (Nu hb) hb hl ?_ hrlen (fun i row j u hi hj => (hat i row j u hi hj).2)
      have hil := hget (rows.length - 1) (by omega)
      have hll := hrlen _ _ hil
      have h7 := (hat (rows.length - 1) _ (P.cellsOf e - 1) ((rows[rows.length - 1]'(by omega))[P.cellsOf e - 1]'(by omega)) hil (by simp)).1
      have h8 : rows.length * P.cellsOf e = (rows.length - 1) * P.cellsOf e + P.cellsOf e := by
       rw [← Nat.succ_mul]; congr 1; omega
      omega
    ·obtain ⟨i, hi⟩ := List.mem_iff_getElem?.1 hm
     obtain ⟨_, _, _, h⟩ := hrows i row hi
     exact h
  ·rename_i fs hu
   simp only [Bool.and_eq_true] at hp
   obtain ⟨xs, n, rfl, _, hcl, hxl, hf⟩ := DataW.trod_struct hu hx
   have := Jj (enc := enc) (sp := sp) (held := held) (cs := cs) (fun t cs x h1 h2 => Kd d n t cs x h1 h2) fs.toList 0 (by rw [hcl]; exact hp.1) hp.2 (fun f hm => by
    obtain ⟨i, hi⟩ := List.mem_iff_getElem?.1 hm
    have hi' : fs[i]? = some f := by simpa using hi
    have h1 := hf i f hi'
    have hlt : i < fs.size := by
     have := Al hi
     simpa using this
    exact ⟨xs[i]'(by omega), by rw [h1]; simp [show i < xs.length from by omega]⟩)
   simpa using this
  ·cases hp
end
end Go.Lift
namespace Go.Lift
open Go.RowKit Go.ChangeShapes Go.WideShapes
section
variable {P : Program}
def Od (P : Program) (t : TypeId) (us : List T) : D := match P.underlying t with
 | some (.struct _) => .e (.agg (us.map .pure))
 | _ => .e (.one (.pure (us.headD .nil0)))
def FH (P : Program) (d : Nat) : List TypeId → List D → Prop
 | [], [] => True
 | t :: ts, x :: xs => (∃ us, F7 P d t us ∧ x = Od P t us) ∧ FH P d ts xs
 | _, _ => False
theorem O8 {H : Type} {enc : TypeId × Value → H} {w : World} {d base : Nat} {t : TypeId} {v : Value} {x : DataW H} {ps : List MemPlace} (hp : Fn P d t = true) (hval : Value.okWide P w .any base t v) (h : DataW.Trod enc P w 0 (fun _ => true) true t v x ps) :
  ∃ us, F7 P d t us ∧ DZ P w (G0 (L9 w)) v (Od P t us) := by
 obtain ⟨fuel, hf⟩ := h
 obtain ⟨us, h1, h2⟩ := Kd d fuel t _ _ hp hf
 refine ⟨us, h2, ?_⟩
 have single : ∀ (v : Value), v.cells.toList = [v] → ED w (L9 w) v.cells.toList us → DZ P w (G0 (L9 w)) v (.e (.one (.pure (us.headD .nil0)))) := by
  intro v hv hr
  rw [hv] at hr
  match us, hr with
  | [u], hr => exact hr.1
 unfold Od
 cases d with
 | zero => cases hp
 | succ d =>
  unfold Fn at hp
  split at hp
  ·rename_i k hu
   rw [hu]
   obtain ⟨n, rfl⟩ := okWide_int hu hval
   exact single _ rfl h1
  ·rename_i hu
   rw [hu]
   obtain ⟨n, rfl⟩ := okWide_bool hu hval
   exact single _ rfl h1
  ·rename_i hu
   rw [hu]
   obtain ⟨n, rfl⟩ := okWide_string hu hval
   exact single _ rfl h1
  ·rename_i e hu
   rw [hu]
   obtain ⟨a, len, cap, rfl⟩ := okWide_slice hu hval
   exact single _ rfl h1
  ·rename_i fs hu
   rw [hu]
   simp only [Value.okWide, hu] at hval
   obtain ⟨cs, rfl, _, _⟩ := hval
   have h1 : ED w (L9 w) cs.toList us := h1
   refine ⟨cs, rfl, by simpa using h1.len, fun j c hj => ?_⟩
   rw [List.getElem?_map] at hj
   cases hx : us[j]? with
   | none => rw [hx] at hj; cases hj
   | some u =>
    rw [hx] at hj; cases hj
    obtain ⟨v, h3, h4⟩ := h1.get j u hx
    have : Ah cs j = v := by unfold Ah; rw [show cs[j]? = some v from by simpa using h3]; rfl
    rw [this]; exact h4
  ·cases hp
theorem LD {H : Type} {enc : TypeId × Value → H} {w : World} {d base : Nat} : ∀ {ts : List TypeId} {vs : List Value} {ds : List (DataW H)} {ps : List MemPlace}, (ts.all (Fn P d)) = true → (∀ (j : Nat) t v, ts[j]? = some t → vs[j]? = some v → Value.okWide P w .any base t v) →
  DataW.TrodAll enc P w 0 (fun _ => true) true ts vs ds ps → ∃ Ds, FH P d ts Ds ∧ vs.length = Ds.length ∧ ds.length = ts.length ∧ ∀ (j : Nat) (x : D), Ds[j]? = some x → ∃ v, vs[j]? = some v ∧ DZ P w (G0 (L9 w)) v x
 | [], [], [], _, _, _, _ => ⟨[], trivial, rfl, rfl, fun j x h => by simp at h⟩
 | t :: ts, v :: vs, x :: xs, _, hp, hval, h => by
  obtain ⟨p, q, h1, h2, _⟩ := h
  simp only [List.all_cons, Bool.and_eq_true] at hp
  obtain ⟨us, h3, h4⟩ := O8 hp.1 (hval 0 t v rfl rfl) h1
  obtain ⟨Ds, h5, h6, h7, h8⟩ := LD hp.2 (fun j t v hj hv => hval (j + 1) t v (by simpa using hj) (by simpa using hv)) h2
  refine ⟨Od P t us :: Ds, ⟨⟨us, h3, rfl⟩, h5⟩, by simp [h6], by simp [h7], fun j y hj => ?_⟩
  cases j with
  | zero => simp at hj; subst hj; exact ⟨v, rfl, h4⟩
  | succ j =>
   obtain ⟨v', g1, g2⟩ := h8 j y (by simpa using hj)
   exact ⟨v', by simpa using g1, g2⟩
 | [], [], _ :: _, _, _, _, h => h.elim
 | [], _ :: _, _, _, _, _, h => by cases ‹List (DataW H)› <;> exact h.elim
 | _ :: _, [], _, _, _, _, h => by cases ‹List (DataW H)› <;> exact h.elim
 | _ :: _, _ :: _, [], _, _, _, h => h.elim
theorem Gz {H : Type} {enc : TypeId × Value → H} (hl : laidOutB P = true) {W W' : World} (hb : Below W.heap.size W W') : ∀ {ts : List TypeId} {vs : List Value} {ds : List (DataW H)} {ps : List MemPlace}, (ts.all fun t => P.readableRec t && decide (t < P.types.size)) = true →
  DataW.TrodAll enc P W 0 (fun _ => true) true ts vs ds ps → (∀ x ∈ ps, x.block < W.heap.size) → DataW.TrodAll enc P W' 0 (fun b => decide (b < W.heap.size)) true ts vs ds ps
 | [], [], [], _, _, h, _ => h
 | t :: ts, v :: vs, x :: xs, _, hr, h, hlt => by
  obtain ⟨p, q, h1, h2, rfl⟩ := h
  simp only [List.all_cons, Bool.and_eq_true, decide_eq_true_eq] at hr
  refine ⟨p, q, Below.trod hl hr.1.1 hr.1.2 h1 hb (fun y hy => hlt y (by simp [hy])), Gz hl hb (by simpa using hr.2) h2 (fun y hy => hlt y (by simp [hy])), rfl⟩
 | [], [], _ :: _, _, _, h, _ => h.elim
 | [], _ :: _, _, _, _, h, _ => by cases ‹List (DataW H)› <;> exact h.elim
 | _ :: _, [], _, _, _, h, _ => by cases ‹List (DataW H)› <;> exact h.elim
 | _ :: _, _ :: _, [], _, _, h, _ => h.elim
theorem Lh {H : Type} {enc : TypeId × Value → H} {C : Checked} {os : Os} {f : FuncId} {fn : Func} {s : ChangeSpec} {conds : List PathCond} {tb : TypeId} {d : Nat}
  (own : ownKnob C.prog.godebug = none) (started : os.Started) (noInit : C.prog.inits.idxOf? f = none) (hfn : C.prog.funcs[f]? = some fn)
  (witness : ∃ (w : World) (tape : Tape) (i : Input), w.os = os ∧ (w.forCall tape i).Shaped C.prog ∧ i.vars = [] ∧ Input.okWide C.prog (w.forCall tape i) .any w.heap.size f i ∧
   s.pre6 enc C.prog fn conds false (w.forCall tape i).memory i.args ∧ ({} : Assume).holds C.prog (lone (Frame.enter C.prog f i.args .normal) [] (w.forCall tape i)))
  (hv : s.vars = []) (hs : ∀ ds : List (DataW H), ds.length = fn.params.toList.length → s.fn H (ds ++ []) = { results := [.lit (.bool true)], args := ds })
  (hres : fn.resultTypes = #[tb]) (htb : C.prog.underlying tb = some .bool) (hl : laidOutB C.prog = true)
  (hread : (fn.params.toList.all fun t => C.prog.readableRec t && decide (t < C.prog.types.size)) = true) (hplain : (fn.params.toList.all (Fn C.prog d)) = true)
  (law : ∀ Ds, FH C.prog d fn.params.toList Ds → Au C.prog f Ds [] (.e (.one (.pure (.val (.bool true)))))) :
  ReturnsInHanded {} C os f .any (s.pre6 enc C.prog fn conds false) (s.post enc C.prog fn false true false false) := by
 refine returnsInHanded_of_change own started noInit hfn witness ?_
 intro W base args ds gs before hval hW _ _
 have hW' := hW
 obtain ⟨p, q, hA, hV, rfl, _, _⟩ := hW
 rw [hv] at hV
 obtain ⟨rfl, rfl⟩ := trodVars_none hV
 obtain ⟨Ds, h1, h2, h3, h4⟩ := LD hplain (fun j t v hj hvj => hval j t v (by simpa using hj) (by simpa using hvj)) hA
 have hlt : ∀ x ∈ p, x.block < W.heap.size := fun x hx => hW'.lt x (by simp [hx])
 refine (law Ds h1 W (L9 W) args (fun β h => h) (by simpa using h2) ?_).mono ?_
 ·intro j x hj
  obtain ⟨v, g1, g2⟩ := h4 j x hj
  have : Ah args j = v := by unfold Ah; rw [show args[j]? = some v from by simpa using g1]; rfl
  rw [this]; exact g2
 ·rintro e W' ⟨v, G', rfl, hb, _, _, hr, _⟩
  have hvb : v = .bool true := by
   have h5 : Co W' G'.S v (.val (.bool true)) := hr
   cases h5; rfl
  subst hvb
  refine ⟨_, rfl, ds, [], p ++ [], [], p, [], hW', ?_, ?_, ?_, hb.frame _, fun h => by cases h⟩
  ·rw [hs ds h3, hres]
   exact trodAll_mk1 (shut_bool htb true)
  ·rw [hs ds h3]
   exact Gz hl hb hread hA hlt
  ·rw [hs ds h3, hv]
   rfl
end
end Go.Lift
namespace Go.Lift
open Go.RowKit
section
variable {P : Program}
def LB {α : Type} (P : Program) (t : TypeId) (e : α → List T) (W : α → Prop) : Prop := ∀ (d : Nat) (ts : List T), F7 P d t ts → ∃ x, ts = e x ∧ W x
theorem Lu {t : TypeId} {k : IntKind} {e : Int → List T} (h : Li P t k = true) (he : ∀ n, e n = [.val (.int k n)]) : LB P t e (fun n => (Lit.int k n).wf = true) := by
 intro d ts hf
 cases d with
 | zero => exact hf.elim
 | succ d =>
  unfold Li at h
  unfold F7 at hf
  split at h
  ·rename_i k' hu
   rw [hu] at hf
   obtain ⟨n, rfl, hw⟩ := hf
   have : k' = k := by simpa using h
   subst this
   exact ⟨n, (he n).symm, hw⟩
  ·cases h
theorem MV {t : TypeId} {e : Bool → List T} (h : OT P t = true) (he : ∀ n, e n = [.val (.bool n)]) : LB P t e (fun _ => True) := by
 intro d ts hf
 cases d with
 | zero => exact hf.elim
 | succ d =>
  unfold OT at h
  unfold F7 at hf
  split at h
  ·rename_i hu
   rw [hu] at hf
   obtain ⟨n, rfl⟩ := hf
   exact ⟨n, (he n).symm, trivial⟩
  ·cases h
theorem IK {α : Type} {e : α → List T} {W : α → Prop} : ∀ (rows : List (List T)), (∀ row, row ∈ rows → ∃ x, row = e x ∧ W x) → ∃ xs : List α, rows = xs.map e ∧ ∀ x, x ∈ xs → W x
 | [], _ => ⟨[], rfl, fun x h => by cases h⟩
 | r :: rows, h => by
  obtain ⟨x, rfl, hx⟩ := h r (by simp)
  obtain ⟨xs, rfl, hxs⟩ := IK rows (fun row hr => h row (by simp [hr]))
  exact ⟨x :: xs, rfl, fun y hy => by
   rcases List.mem_cons.1 hy with e | e
   ·subst e; exact hx
   ·exact hxs y e⟩
theorem HI {α : Type} {t el : TypeId} {e : α → List T} {W : α → Prop} {e2 : List α → List T} (h : Bb P t el = true) (he : LB P el e W) (h2 : ∀ xs, e2 xs = [.sl (xs.map e)]) : LB P t e2 (fun xs => ∀ x, x ∈ xs → W x) := by
 intro d ts hf
 cases d with
 | zero => exact hf.elim
 | succ d =>
  unfold Bb at h
  unfold F7 at hf
  split at h
  ·rename_i e' hu
   rw [hu] at hf
   obtain ⟨rows, rfl, hr⟩ := hf
   have : e' = el := by simpa using h
   subst this
   obtain ⟨xs, rfl, hxs⟩ := IK rows (fun row hm => he d row (hr row hm))
   exact ⟨xs, (h2 xs).symm, hxs⟩
  ·cases h
def D8 (P : Program) (t : TypeId) : Option (List TypeId) := match P.underlying t with | some (.struct fs) => some (fs.toList.map (·.type)) | _ => none
theorem GW {t : TypeId} {tys : List TypeId} (h : D8 P t = some tys) {d : Nat} {ts : List T} (hf : F7 P d t ts) : ∃ d', NA (F7 P d') tys ts := by
 cases d with
 | zero => exact hf.elim
 | succ d =>
  unfold D8 at h
  unfold F7 at hf
  split at h
  ·rename_i fs hu
   cases h
   rw [hu] at hf
   exact ⟨d, hf⟩
  ·cases h
theorem IG {t : TypeId} {tys : List TypeId} (h : D8 P t = some tys) (us : List T) : Od P t us = .e (.agg (us.map .pure)) := by
 unfold D8 at h
 unfold Od
 revert h
 cases P.underlying t with
 | none => intro h; cases h
 | some k => cases k <;> intro h <;> first | rfl | cases h
theorem Nz {t : TypeId} (h : D8 P t = none) (us : List T) : Od P t us = .e (.one (.pure (us.headD .nil0))) := by
 unfold D8 at h
 unfold Od
 revert h
 cases P.underlying t with
 | none => intro _; rfl
 | some k => cases k <;> intro h <;> first | rfl | cases h
theorem FT {d : Nat} {t : TypeId} {ts : List TypeId} {Ds : List D} (h : FH P d (t :: ts) Ds) : ∃ us xs, Ds = Od P t us :: xs ∧ F7 P d t us ∧ FH P d ts xs := by
 cases Ds with
 | nil => exact h.elim
 | cons x xs => obtain ⟨⟨us, h1, rfl⟩, h2⟩ := h; exact ⟨us, xs, rfl, h1, h2⟩
theorem Kx {d : Nat} {Ds : List D} (h : FH P d [] Ds) : Ds = [] := by
 cases Ds with
 | nil => rfl
 | cons x xs => exact h.elim
end
end Go.Lift
namespace Go.Lift
open List renaming mem_of_getElem? → lM
open List renaming getD_eq_getElem?_getD → lD
open Go.RowKit
variable {P : Program} {X : EM} {ops : Array Oper}
instance : Inhabited AO := ⟨.gone⟩
def EQ (n m b : Nat) : Bool := if AR b then Nat.blt (b - 90000) n else Nat.blt b m
def LS (G : Gh) (n : Nat) (β : Nat) : Prop := ∃ k, k < n ∧ G.has (90000 + k) β
theorem E4 {k : Nat} (h : k < 1000) : AR (90000 + k) = true := by
 unfold AR
 rw [Nat.ble_eq_true_of_le (by omega), Nat.ble_eq_true_of_le (by omega)]; rfl
theorem L7 {k : Nat} (h : k < 900) : JK (90000 + k) = true := by
 unfold JK
 rw [Bool.and_eq_true]
 exact ⟨Nat.ble_eq_true_of_le (by omega), Nat.ble_eq_true_of_le (by omega)⟩
theorem FG {b : Nat} (h : AR b = true) : ∃ k, k < 1000 ∧ b = 90000 + k := by
 unfold AR at h
 rw [Bool.and_eq_true] at h
 have h1 := Nat.le_of_ble_eq_true h.1
 have h2 := Nat.le_of_ble_eq_true h.2
 exact ⟨b - 90000, by omega, by omega⟩
def FA (P : Program) (f : FuncId) (args : List D) (lent : List (AO × AO)) (rv : List AO) (res : D) : Prop :=
 ∀ (w : World) (G : Gh) (vs : Array Value), (∀ β, G.S β → β < w.heap.size) →
  (∀ (k : Nat) (x : AO × AO), lent[k]? = some x → Ct P w G (90000 + k) x.1) →
  (∀ k β, k < lent.length → G.has (90000 + k) β → β < w.heap.size ∧ ¬ G.S β) →
  (∀ k l β, k < lent.length → l < lent.length → G.has (90000 + k) β → G.has (90000 + l) β → k = l) →
  vs.size = args.length → (∀ (j : Nat) (d : D), args[j]? = some d → DZ P w G (Ah vs j) d) →
  Calls P f vs w fun e w' => ∃ v G', e = .returned v ∧ BC (LS G lent.length) w.heap.size w w' ∧ (∀ β, G.S β → G'.S β) ∧ (∀ β, G'.S β → G.S β ∨ (w.heap.size ≤ β ∧ β < w'.heap.size)) ∧ DZ P w' G' v res ∧
   (∀ (k : Nat) (x : AO × AO), lent[k]? = some x → Ct P w' G' (90000 + k) x.2) ∧
   (∀ (k : Nat) (x : AO), rv[k]? = some x → Ct P w' G' k x) ∧
   (∀ k, k < lent.length → G'.loc (90000 + k) = G.loc (90000 + k) ∧ G'.hd (90000 + k) = G.hd (90000 + k) ∧ G'.more (90000 + k) = G.more (90000 + k)) ∧
   (∀ k β, k < lent.length → G'.has (90000 + k) β → ¬ G'.S β) ∧
   (∀ k β, k < rv.length → G'.has k β → w.heap.size ≤ β ∧ β < w'.heap.size ∧ ¬ G'.S β) ∧
   (∀ k l β, k < rv.length → l < rv.length → G'.has k β → G'.has l β → k = l)
def JL (args : List D) (lent : List (AO × AO)) : St := ⟨fun s => args[s]?, fun b => if AR b then (lent[b - 90000]?).map (·.1) else none⟩
def JU (bx : Nat → Option AO) (f : Nat → Nat) : Nat → List (AO × AO) → Prop
 | _, [] => True
 | k, x :: xs => bx (90000 + k) = some (x.2.ren f) ∧ JU bx f (k + 1) xs
def Lo (bx : Nat → Option AO) (f : Nat → Nat) : Nat → List AO → Prop
 | _, [] => True
 | k, x :: xs => bx (1000 + k) = some (x.ren f) ∧ Lo bx f (k + 1) xs
theorem HP {bx : Nat → Option AO} {f : Nat → Nat} : ∀ {l : List (AO × AO)} {m : Nat}, JU bx f m l → ∀ (k : Nat) (x : AO × AO), l[k]? = some x → bx (90000 + (m + k)) = some (x.2.ren f)
 | y :: rv, m, h, 0, x, hk => by simp at hk; subst hk; exact h.1
 | y :: rv, m, h, k + 1, x, hk => by
  have := HP h.2 k x (by simpa using hk)
  rwa [show m + 1 + k = m + (k + 1) from by omega] at this
theorem IN {bx : Nat → Option AO} {f : Nat → Nat} : ∀ {l : List AO} {m : Nat}, Lo bx f m l → ∀ (k : Nat) (x : AO), l[k]? = some x → bx (1000 + (m + k)) = some (x.ren f)
 | y :: rv, m, h, 0, x, hk => by simp at hk; subst hk; exact h.1
 | y :: rv, m, h, k + 1, x, hk => by
  have := IN h.2 k x (by simpa using hk)
  rwa [show m + 1 + k = m + (k + 1) from by omega] at this
def Gx (b : Nat) : Nat := if AR b then b else 1000 + b
structure Ma (P : Program) (rs : List ResultVar) (st : St) (lent : List (AO × AO)) (rv : List AO) (res : D) : Prop where
 r : ∃ xs, P0 P st rs xs ∧ Qj xs = res.ren Gx
 l : JU st.bx Gx 0 lent
 v : Lo st.bx Gx 0 rv
def FL (n m : Nat) (l : List Nat) : Bool := l.all (EQ n m)
theorem E2 {f n : Nat} {fn : Func} {c : Code} {args : List D} {lent : List (AO × AO)} {rv : List AO} {res : D} {rs : List ResultVar} (hf : P.funcs[f]? = some fn) (hb : fn.body = some c) (hn : fn.ntmps = n) (hrs : fn.results.toList = rs) (hl : args.length ≤ n) (hn9 : n ≤ 90000)
  (hargs : (args.all fun d => FL lent.length 0 d.names) = true) (hpre : (lent.all fun x => FL lent.length 0 x.1.names && x.1.real && x.2.real) = true) (hll : lent.length ≤ 900) (hrl : (rv.all fun x => x.real) = true) (hrn : rv.length ≤ 1000)
  (h : ∀ (w0 : World) (S0 : Nat → Prop) (GL : Gh), W P ⟨w0, S0, n, GL⟩ c (fun e st => match e with | .normal | .ret => Ma P rs st lent rv res | _ => False) (JL args lent)) : FA P f args lent rv res := by
 subst hn; subst hrs
 intro w G vs hS hlb hla hli hlen hrd
 refine calls_of_wp hf hb ?_
 have hcell : ∀ j, j < args.length → Ah (vs ++ Array.replicate (fn.ntmps - vs.size) undef) j = Ah vs j := fun j hj => Bc (by omega)
 -- the ghost that knows of what is lent alone
 let dom : Nat → Prop := fun b => AR b = true ∧ b - 90000 < lent.length
 have hdec : ∀ b, Decidable (dom b) := fun b => inferInstanceAs (Decidable (_ ∧ _))
 let GL : Gh := { S := G.S, loc := fun b => if dom b then G.loc b else none, hd := fun b => if dom b then G.hd b else undef, more := fun b => if dom b then G.more b else fun _ => False }
 have hext : G.ext GL dom := ⟨fun _ h => h, fun b hb => if_pos hb, fun b hb => if_pos hb, fun b hb => if_pos hb⟩
 have hdomk : ∀ k, k < lent.length → dom (90000 + k) := fun k hk => ⟨E4 (by omega), by omega⟩
 have hin : ∀ b, EQ lent.length 0 b = true → dom b := by
  intro b hb
  unfold EQ at hb
  split at hb
  ·rename_i hl; exact ⟨hl, by rwa [Nat.blt_eq] at hb⟩
  ·simp [Nat.blt] at hb
 have hhas : ∀ b β, GL.has b β → dom b ∧ G.has b β := by
  intro b β hb
  by_cases hd : dom b
  ·exact ⟨hd, (hext.has hd).1 hb⟩
  ·exfalso
   unfold Gh.has at hb
   simp only [GL] at hb
   rw [if_neg hd, if_neg hd] at hb
   rcases hb with h | h
   ·cases h
   ·exact h
 have hlent : ∀ β, GL.lent β ↔ LS G lent.length β := by
  intro β
  constructor
  ·rintro ⟨b, hb, hb2⟩
   obtain ⟨hd, hg⟩ := hhas b β hb2
   obtain ⟨k, _, rfl⟩ := FG hb
   exact ⟨k, by have := hd.2; omega, hg⟩
  ·rintro ⟨k, hk, hg⟩
   exact ⟨90000 + k, E4 (by omega), (hext.has (hdomk k hk)).2 hg⟩
 have hbx : ∀ b k, (JL args lent).bx b = some k → dom b ∧ ∃ x, lent[b - 90000]? = some x ∧ x.1 = k := by
  intro b k hk
  simp only [JL] at hk
  split at hk
  ·rename_i hb
   cases hx : lent[b - 90000]? with
   | none => rw [hx] at hk; cases hk
   | some x => rw [hx] at hk; cases hk; exact ⟨⟨hb, Al hx⟩, x, rfl, rfl⟩
  ·cases hk
 have hdn : ∀ b, dom b → ((JL args lent).bx b).isSome = true := by
  intro b hb
  simp only [JL]
  rw [if_pos hb.1]
  simp [hb.2]
 have hpre' : ∀ x, x ∈ lent → FL lent.length 0 x.1.names = true ∧ x.1.real = true ∧ x.2.real = true := fun x hx => by
  have := List.all_eq_true.1 hpre x hx
  rw [Bool.and_eq_true, Bool.and_eq_true] at this
  exact ⟨this.1.1, this.1.2, this.2⟩
 have hbk : ∀ b, dom b → b = 90000 + (b - 90000) := fun b hb => by obtain ⟨k, _, e⟩ := FG hb.1; omega
 have hinit : BT P ⟨w, G.S, fn.ntmps, GL⟩ GL (JL args lent) { tmps := vs ++ Array.replicate (fn.ntmps - vs.size) undef, defers := [] } w := by
  refine { S_lt := hS, S_src := fun β h => .inl h, S_0 := fun β h => h, S0_lt := hS, tsz := by simp; omega, defers := rfl, below := BC.refl _ _ _, nlt := hn9, lent := fun _ _ => ⟨rfl, rfl, rfl⟩, blk := ?_, at_ok := ?_, at_inj := ?_, env := ?_, live := ?_, liveB := ?_ }
  ·intro b k hk
   obtain ⟨hd, x, hx, rfl⟩ := hbx b k hk
   have h1 := hlb _ x hx
   rw [← hbk b hd] at h1
   exact h1.mono hext hd (fun _ _ => rfl) (fun _ _ _ => rfl) fun c hc => hin c (List.all_eq_true.1 (hpre' x (lM hx)).1 c hc)
  ·intro b k β hk hr hβ
   obtain ⟨hd, hg⟩ := hhas b β hβ
   rw [hbk b hd] at hg
   have := hla _ β hd.2 hg
   exact ⟨⟨fun h3 => (by rw [hd.1] at h3; cases h3), .inr ⟨b, hd.1, hβ⟩⟩, this.1, this.2⟩
  ·intro b c k l β hk hl hr hr' hβ hβ'
   obtain ⟨hd, hg⟩ := hhas b β hβ
   obtain ⟨hd', hg'⟩ := hhas c β hβ'
   rw [hbk b hd] at hg
   rw [hbk c hd'] at hg'
   have := hli _ _ β hd.2 hd'.2 hg hg'
   rw [hbk b hd, hbk c hd', this]
  ·intro s d hs
   have hs' : args[s]? = some d := hs
   rw [hcell s (Al hs')]
   exact (hrd s d hs').mono hext (fun _ _ => rfl) fun b hb => hin b (List.all_eq_true.1 (List.all_eq_true.1 hargs d (lM hs')) b hb)
  ·intro s d hs b hb
   have hs' : args[s]? = some d := hs
   exact hdn b (hin b (List.all_eq_true.1 (List.all_eq_true.1 hargs d (lM hs')) b hb))
  ·intro b k hk c hc
   obtain ⟨hd, x, hx, rfl⟩ := hbx b k hk
   exact hdn c (hin c (List.all_eq_true.1 (hpre' x (lM hx)).1 c hc))
 refine wp_mono (h w G.S GL _ w ⟨_, hinit⟩) ?_
 rintro e a' w' ⟨st', hq, G2, hs⟩
 have key : Ma P fn.results.toList st' lent rv res → a'.defers = [] ∧ ∃ v, (results fn a'.tmps).run P w' = .ok v w' ∧ ∃ v' G', Ending.returned v = .returned v' ∧ BC (LS G lent.length) w.heap.size w w' ∧ (∀ β, G.S β → G'.S β) ∧ (∀ β, G'.S β → G.S β ∨ (w.heap.size ≤ β ∧ β < w'.heap.size)) ∧ DZ P w' G' v' res ∧
   (∀ (k : Nat) (x : AO × AO), lent[k]? = some x → Ct P w' G' (90000 + k) x.2) ∧
   (∀ (k : Nat) (x : AO), rv[k]? = some x → Ct P w' G' k x) ∧
   (∀ k, k < lent.length → G'.loc (90000 + k) = G.loc (90000 + k) ∧ G'.hd (90000 + k) = G.hd (90000 + k) ∧ G'.more (90000 + k) = G.more (90000 + k)) ∧
   (∀ k β, k < lent.length → G'.has (90000 + k) β → ¬ G'.S β) ∧
   (∀ k β, k < rv.length → G'.has k β → w.heap.size ≤ β ∧ β < w'.heap.size ∧ ¬ G'.S β) ∧
   (∀ k l β, k < rv.length → l < rv.length → G'.has k β → G'.has l β → k = l) := by
  rintro ⟨⟨xs, hr1, hr2⟩, hlp, hv⟩
  obtain ⟨us, h1, h2, h3⟩ := hs.rrs hr1
  have hoL : ∀ k, k < lent.length → Gx (90000 + k) = 90000 + k := fun k hk => by unfold Gx; rw [E4 (by omega)]; rfl
  have hoN : ∀ k, k < rv.length → Gx k = 1000 + k := fun k hk => by unfold Gx; rw [Ft (show k < 1000 by omega) (by omega)]; rfl
  have hbl : ∀ (k : Nat) (x : AO × AO), lent[k]? = some x → st'.bx (90000 + k) = some (x.2.ren Gx) := fun k x hk => by
   have := HP hlp k x hk
   rwa [Nat.zero_add] at this
  have hbv : ∀ (k : Nat) (x : AO), rv[k]? = some x → st'.bx (1000 + k) = some (x.ren Gx) := fun k x hk => by
   have := IN hv k x hk
   rwa [Nat.zero_add] at this
  have hreal : ∀ (k : Nat) (x : AO), rv[k]? = some x → (x.ren Gx).real = true := fun k x hk => by
   rw [Fy]; exact List.all_eq_true.1 hrl x (lM hk)
  have hgl : ∀ k, k < lent.length → G2.loc (90000 + k) = G.loc (90000 + k) ∧ G2.hd (90000 + k) = G.hd (90000 + k) ∧ G2.more (90000 + k) = G.more (90000 + k) := fun k hk => by
   obtain ⟨e1, e2, e3⟩ := hs.lent (90000 + k) (L7 (by omega))
   exact ⟨e1.trans (hext.loc _ (hdomk k hk)), e2.trans (hext.hd _ (hdomk k hk)), e3.trans (hext.more _ (hdomk k hk))⟩
  refine ⟨hs.defers, (if h : us.toArray.size = 1 then us.toArray[0] else .tuple us.toArray), ?_, _, { S := G2.S, loc := fun b => G2.loc (Gx b), hd := fun b => G2.hd (Gx b), more := fun b => G2.more (Gx b) }, rfl, ?_, hs.S_0, ?_, ?_, ?_, ?_, ?_, ?_, ?_, ?_⟩
  ·unfold results
   refine Ag (a := us.toArray) (w1 := w') ?_ rfl
   rw [Array.mapM_eq_mapM_toList]
   simp only [Sem.run_map]
   exact congrArg (fun r => Result.andThen r fun a w' => Result.ok a.toArray w') h1
  ·have hb := hs.below
   exact ⟨hb.os, hb.tape, hb.output, hb.size, fun k hk hl => hb.block k hk fun h => hl ((hlent k).1 h)⟩
  ·intro β hβ
   rcases hs.S_src β hβ with h | h
   ·exact .inl h
   ·exact .inr ⟨h, hs.S_lt β hβ⟩
  ·refine FR (f := Gx) ?_
   rw [← hr2]
   match xs, us, h2 with
   | [], [], _ => exact ⟨#[], rfl, rfl, fun j x h => by simp at h⟩
   | [x], [u], _ => exact h3 0 u x rfl rfl
   | x :: y :: xs, u :: u' :: us, hl2 =>
    refine ⟨(u :: u' :: us).toArray, by simp, by simpa using hl2, fun j z hj => ?_⟩
    have hlt := Al hj
    have hu : (u :: u' :: us)[j]? = some ((u :: u' :: us)[j]'(by rw [hl2]; exact hlt)) := by rw [List.getElem?_eq_getElem]
    have := h3 j _ z hu hj
    have hc : Ah (u :: u' :: us).toArray j = (u :: u' :: us)[j]'(by rw [hl2]; exact hlt) := by
     unfold Ah
     rw [List.getElem?_toArray, hu]; rfl
    rw [hc]; exact this
  ·intro k x hk
   refine FF (f := Gx) ?_
   rw [hoL k (Al hk)]
   exact hs.blk _ _ (hbl k x hk)
  ·intro k x hk
   refine FF (f := Gx) ?_
   rw [hoN k (Al hk)]
   exact hs.blk _ _ (hbv k x hk)
  ·intro k hk
   simp only [hoL k hk]
   exact hgl k hk
  ·intro k β hk hβ
   have hx : lent[k]? = some lent[k] := by simp [hk]
   have hβ : G2.has (90000 + k) β := by
    unfold Gh.has at hβ ⊢
    simp only [hoL k hk] at hβ
    exact hβ
   exact (hs.at_ok _ _ β (hbl k _ hx) (by rw [Fy]; exact (hpre' _ (lM hx)).2.2) hβ).2.2
  ·intro k β hk hβ
   have hx : rv[k]? = some rv[k] := by simp [hk]
   have hβ : G2.has (1000 + k) β := by
    unfold Gh.has at hβ ⊢
    simp only [hoN k hk] at hβ
    exact hβ
   have := hs.at_ok _ _ β (hbv k _ hx) (hreal k _ hx) hβ
   exact ⟨this.1.1 (Ft (show 1000 + k < 3000 by omega) (by omega)), this.2⟩
  ·intro k l β hk hl hβ hβ'
   have hx : rv[k]? = some rv[k] := by simp [hk]
   have hx' : rv[l]? = some rv[l] := by simp [hl]
   have hβ : G2.has (1000 + k) β := by
    unfold Gh.has at hβ ⊢
    simp only [hoN k hk] at hβ
    exact hβ
   have hβ' : G2.has (1000 + l) β := by
    unfold Gh.has at hβ' ⊢
    simp only [hoN l hl] at hβ'
    exact hβ'
   have := hs.at_inj _ _ _ _ β (hbv k _ hx) (hbv l _ hx') (hreal k _ hx) (hreal l _ hx') hβ hβ'
   omega
 cases e with
 | normal => exact key hq
 | ret => exact key hq
 | _ => exact hq.elim
def nu (ls ns : List Nat) (b : Nat) : Nat := if AR b then ls.getD (b - 90000) 0 else ns.getD b 0
def Jl (f : Nat → Nat) : List Nat → List (AO × AO) → List (Nat × AO)
 | l :: ls, x :: xs => (l, x.1.ren f) :: Jl f ls xs
 | _, _ => []
def Fc (f : Nat → Nat) : List Nat → List (AO × AO) → List Bool → List (Nat × AO) → List (Nat × AO)
 | l :: ls, x :: xs, c :: cs, r => if c then (l, x.2.ren f) :: Fc f ls xs cs r else Fc f ls xs cs r
 | _, _, _, r => r
def newB (f : Nat → Nat) : List Nat → List AO → List (Nat × AO)
 | n :: ns, x :: xs => (n, x.ren f) :: newB f ns xs
 | _, _ => []
def M0 : List (AO × AO) → List Bool → Prop
 | x :: xs, c :: cs => (c = false → x.1 = x.2) ∧ M0 xs cs
 | [], [] => True
 | _, _ => False
theorem JF {f : Nat → Nat} {bx : Nat → Option AO} : ∀ {ls : List Nat} {lent : List (AO × AO)}, ls.length = lent.length → EH bx (Jl f ls lent) → ∀ (k : Nat) (x : AO × AO), lent[k]? = some x → bx (nm ls k) = some (x.1.ren f)
 | [], [], _, _, k, y, hk => by simp at hk
 | l :: ls, x :: xs, hl, h, 0, y, hk => by simp at hk; subst hk; exact h.1
 | l :: ls, x :: xs, hl, h, k + 1, y, hk => by
  have := JF (ls := ls) (lent := xs) (by simpa using hl) h.2 k y (by simpa using hk)
  simpa [nm] using this
theorem Jm {f : Nat → Nat} {bx : Nat → Option AO} {r : List (Nat × AO)} : ∀ {ls : List Nat} {lent : List (AO × AO)} {ch : List Bool}, ls.length = lent.length → ls.Nodup → M0 lent ch → (∀ c, c ∈ ls → AT bx r c = bx c) → EH bx (Jl f ls lent) →
  (∀ c, c ∉ ls → AT bx (Fc f ls lent ch r) c = AT bx r c) ∧ ∀ (k : Nat) (x : AO × AO), lent[k]? = some x → AT bx (Fc f ls lent ch r) (nm ls k) = some (x.2.ren f)
 | [], [], [], _, _, _, _, _ => ⟨fun _ _ => rfl, fun k x h => by simp at h⟩
 | [], [], _ :: _, _, _, h, _, _ => h.elim
 | l :: ls, x :: xs, [], hl, hnd, hc, hr, hp => by cases hc
 | l :: ls, x :: xs, c :: cs, hl, hnd, hc, hr, hp => by
  have ih := Jm (f := f) (bx := bx) (r := r) (ls := ls) (lent := xs) (ch := cs) (by simpa using hl) (List.nodup_cons.1 hnd).2 hc.2 (fun c hc => hr c (by simp [hc])) hp.2
  have hln : l ∉ ls := (List.nodup_cons.1 hnd).1
  have hl0 : AT bx (Fc f ls xs cs r) l = bx l := (ih.1 l hln).trans (hr l (by simp))
  refine ⟨fun d hd => ?_, fun k y hk => ?_⟩
  ·simp only [List.mem_cons, not_or] at hd
   simp only [Fc]
   split
   ·simp only [AT]; rw [if_neg hd.1]; exact ih.1 d hd.2
   ·exact ih.1 d hd.2
  ·cases k with
   | zero =>
    simp at hk; subst hk
    simp only [Fc, nm, List.getD_cons_zero]
    split
    ·simp [AT]
    ·rename_i hcc
     have hcf : c = false := by simpa using hcc
     rw [hl0, hp.1, hc.1 hcf]
   | succ k =>
    have hk' : xs[k]? = some y := by simpa using hk
    have hlt := Al hk'
    have hlt2 : k < ls.length := by simp at hl; omega
    have e : nm (l :: ls) (k + 1) = nm ls k := by simp [nm]
    rw [e]
    have hne : nm ls k ≠ l := fun h => hln (h ▸ C4 hlt2)
    simp only [Fc]
    split
    ·simp only [AT]; rw [if_neg hne]; exact ih.2 k y hk'
    ·exact ih.2 k y hk'
theorem IT {f : Nat → Nat} {bx : Nat → Option AO} : ∀ {ns : List Nat} {rv : List AO} {c : Nat}, ns.length = rv.length → ns.Nodup →
  (c ∉ ns → AT bx (newB f ns rv) c = bx c) ∧ ∀ (k : Nat) (x : AO), rv[k]? = some x → AT bx (newB f ns rv) (nm ns k) = some (x.ren f)
 | [], [], c, _, _ => ⟨fun _ => rfl, fun k x h => by simp at h⟩
 | n :: ns, x :: xs, c, hl, hnd => by
  have ih := IT (f := f) (bx := bx) (ns := ns) (rv := xs) (c := c) (by simpa using hl) (List.nodup_cons.1 hnd).2
  refine ⟨fun hc => ?_, fun k y hk => ?_⟩
  ·simp only [List.mem_cons, not_or] at hc
   simp only [newB, AT]
   rw [if_neg hc.1]; exact ih.1 hc.2
  ·cases k with
   | zero => simp at hk; subst hk; simp [newB, AT, nm]
   | succ k =>
    have hk' : xs[k]? = some y := by simpa using hk
    have hlt := Al hk'
    have hlt2 : k < ns.length := by simp at hl; omega
    have : nm (n :: ns) (k + 1) = nm ns k := by simp [nm]
    rw [this]
    have hne : nm ns k ≠ n := fun e => (List.nodup_cons.1 hnd).1 (e ▸ C4 hlt2)
    simp only [newB, AT]
    rw [if_neg hne]
    exact (IT (f := f) (bx := bx) (ns := ns) (rv := xs) (c := c) (by simpa using hl) (List.nodup_cons.1 hnd).2).2 k y hk'
theorem D9 {ls ns : List Nat} {k : Nat} (h : k < 1000) : nu ls ns (90000 + k) = nm ls k := by
 unfold nu nm; rw [E4 h, if_pos rfl, show 90000 + k - 90000 = k from by omega]
theorem HH {ls ns : List Nat} {k : Nat} (h : k < 90000) : nu ls ns k = nm ns k := by
 unfold nu nm; rw [Ft h (Nat.le_refl _), if_neg (by simp)]
theorem I0 {bx : Nat → Option AO} {c : Nat} : ∀ {wb : List (Nat × AO)}, (bx c).isSome = true → (AT bx wb c).isSome = true
 | [], h => h
 | p :: ps, h => by
  simp only [AT]; split
  ·rfl
  ·exact I0 h
section run
variable {dr : Bool} {Q : St → Prop} {r i : Nat} {st : St} {log : List (Nat × Bz)} {o : Oper} {gs : List (Operand × D)}
theorem Ib {f s : Nat} {xs : List Operand} {ds0 ds : List D} {lent : List (AO × AO)} {rv : List AO} {res : D} {ts : Array TypeId} (ls ns : List Nat) (ch : List Bool) (hc : FA P f ds lent rv res) (hat : At st.env ops i X.n (.call ⟨.value (.func f), xs.toArray, ts⟩) s gs)
  (hf : AS P f = true) (hl : xs.length = ds0.length) (hx : Eu st.env (Fs xs ds0)) (hds : ds0.map D.nrm = ds.map (D.ren (nu ls ns)))
  (hll : ls.length = lent.length) (hln : ls.Nodup) (hlb : EH st.bx (Jl (nu ls ns) ls lent)) (hns : ns.length = rv.length) (hndl : IA ns) (hnew : IZ st.bx ns) (hch : M0 lent ch)
  (hlim : (Nat.ble lent.length 1000 && Nat.ble rv.length 1000) = true) (hre : (lent.all fun x => x.1.real && x.2.real) = true)
  (hnm : (FL lent.length rv.length res.names && (lent.all fun x => FL lent.length rv.length x.2.names) && rv.all fun x => FL lent.length rv.length x.names) = true)
  (next : AV P X ops dr Q r (i + 1) (Bz.upd ⟨gs ++ Fs xs ds0, Jl (nu ls ns) ls lent, some s, some (res.ren (nu ls ns)), Fc (nu ls ns) ls lent ch (newB (nu ls ns) ns rv), ns⟩ st) ((i, ⟨gs ++ Fs xs ds0, Jl (nu ls ns) ls lent, some s, some (res.ren (nu ls ns)), Fc (nu ls ns) ls lent ch (newB (nu ls ns) ns rv), ns⟩) :: log)) : AV P X ops dr Q (r + 1) i st log := by
 obtain ⟨o, ho, hop, hd, hn, hg, hgp⟩ := hat.out
 have hnd := hndl.1
 rw [Bool.and_eq_true] at hlim
 have hlim1 := Nat.le_of_ble_eq_true hlim.1
 have hlim2 := Nat.le_of_ble_eq_true hlim.2
 rw [Bool.and_eq_true, Bool.and_eq_true] at hnm
 obtain ⟨⟨hnmR, hnmL⟩, hnmV⟩ := hnm
 have hre' : ∀ x, x ∈ lent → x.1.real = true ∧ x.2.real = true := fun x hx => by
  have := List.all_eq_true.1 hre x hx
  rw [Bool.and_eq_true] at this
  exact this
 refine AV.step next ⟨Ad.2 ⟨hgp, hx⟩, hlb, hnew⟩ ?_
 intro st a w K Q' hs hpre hK
 obtain ⟨G, hs⟩ := hs
 have hx := (Ad.1 hpre.r).2
 have hw := hs.wanted hg (Ad.1 hpre.r).1
 have hnew := hpre.n
 have hlb := hpre.b
 have hnew' : ∀ c, c ∈ ns → st.bx c = none := by
  have : ∀ {l : List Nat}, IZ st.bx l → ∀ c, c ∈ l → st.bx c = none := by
   intro l
   induction l with
   | nil => intro _ c hc; cases hc
   | cons b l ih =>
    intro h c hc
    rcases List.mem_cons.1 hc with e | e
    ·subst e; exact h.1
    ·exact ih h.2 c e
  exact this hnew
 have hget := fun k x hk => JF (f := nu ls ns) hll hlb k x hk
 have hlk : ∀ k, k < lent.length → st.bx (nm ls k) = some (lent[k]!.1.ren (nu ls ns)) ∧ (lent[k]!.1.ren (nu ls ns)).real = true := fun k hk => by
  have hx0 : lent[k]? = some lent[k]! := by simp [hk]
  exact ⟨hget k _ hx0, by rw [Fy]; exact (hre' _ (lM hx0)).1⟩
 have hlsns : ∀ c, c ∈ ls → c ∉ ns := fun c hc hm => by
  obtain ⟨k, hk, e⟩ := IR hc
  have := (hlk k (by omega)).1
  rw [e, hnew' c hm] at this; cases this
 unfold wpOp
 rw [ho]
 simp only [hw, if_true]
 refine .inl ?_
 unfold Oper.wp
 have hrun : (execOp a.eval o).run P w = .ok (.enter f (xs.toArray.map a.eval)) w := by
  simp only [execOp, hop]
  exact E0 hf rfl
 rw [hrun]
 show Calls P f (xs.toArray.map a.eval) w _
 let Gc : Gh := { S := G.S, loc := fun b => G.loc (nu ls ns b), hd := fun b => G.hd (nu ls ns b), more := fun b => G.more (nu ls ns b) }
 have hGc : ∀ k β, k < lent.length → (Gc.has (90000 + k) β ↔ G.has (nm ls k) β) := fun k β hk => by
  unfold Gh.has; simp only [Gc]; rw [D9 (by omega)]
 refine (hc w Gc (xs.toArray.map a.eval) hs.S_lt ?_ ?_ ?_ ?_ ?_).mono ?_
 ·intro k x hk
  refine FF (f := nu ls ns) ?_
  rw [D9 (by have := Al hk; omega)]
  exact hs.blk _ _ (hget k x hk)
 ·intro k β hk hβ
  have h1 := hlk k hk
  exact (hs.at_ok _ _ β h1.1 h1.2 ((hGc k β hk).1 hβ)).2
 ·intro k l β hk hl' hβ hβ'
  have h1 := hlk k hk
  have h2 := hlk l hl'
  have := hs.at_inj _ _ _ _ β h1.1 h2.1 h1.2 h2.2 ((hGc k β hk).1 hβ) ((hGc l β hl').1 hβ')
  exact JO hln (by omega) (by omega) this
 ·have h1 := congrArg List.length hds
  simp at h1
  simp; omega
 ·intro j d hj
  have hj2 : (ds.map (D.ren (nu ls ns)))[j]? = some (d.ren (nu ls ns)) := by rw [List.getElem?_map, hj]; rfl
  rw [← hds, List.getElem?_map] at hj2
  obtain ⟨d0, hj0, hd0⟩ : ∃ d0, ds0[j]? = some d0 ∧ d0.nrm = d.ren (nu ls ns) := by
   cases hx0 : ds0[j]? with
   | none => rw [hx0] at hj2; cases hj2
   | some d0 => rw [hx0] at hj2; exact ⟨d0, rfl, by simpa using hj2⟩
  have hlt := Al hj0
  have hxj : xs[j]? = some (xs[j]'(by omega)) := by simp [show j < xs.length from by omega]
  have hop' := FD hl hx j _ d0 hxj hj0
  have hcell : Ah (xs.toArray.map a.eval) j = a.eval (xs[j]'(by omega)) := by simp [Ah, show j < xs.length from by omega]
  rw [hcell]
  refine FR (f := nu ls ns) ?_
  rw [← hd0]
  exact (hs.opd hop').nrm
 ·rintro e w' ⟨v, G', rfl, hbel, hS1, hS2, hres', hpost, hvec, hsame, hlS, hvat, hvinj⟩
  show K (a.put o.dst v) w'
  rw [hd]
  let G2 : Gh := { S := G'.S, loc := fun c => if c ∈ ns then G'.loc (ns.idxOf c) else G.loc c, hd := fun c => if c ∈ ns then G'.hd (ns.idxOf c) else G.hd c, more := fun c => if c ∈ ns then G'.more (ns.idxOf c) else G.more c }
  have hidx : ∀ k, k < ns.length → ns.idxOf (nm ns k) = k := by
   intro k hk
   have hm := C4 hk
   have h1 : ns.idxOf (nm ns k) < ns.length := List.idxOf_lt_length_of_mem hm
   refine JO hnd h1 hk ?_
   have h2 := List.getElem_idxOf h1
   show ns.getD (ns.idxOf (nm ns k)) 0 = nm ns k
   rw [lD, List.getElem?_eq_getElem h1, Option.getD_some, h2]
  have hvia : G'.via G2 (nu ls ns) (fun b => EQ lent.length rv.length b = true) := by
   have key : ∀ b, EQ lent.length rv.length b = true → (∃ k, k < lent.length ∧ b = 90000 + k) ∨ (b < rv.length ∧ AR b = false) := by
    intro b hb
    unfold EQ at hb
    split at hb
    ·rename_i h
     obtain ⟨k, _, rfl⟩ := FG h
     rw [Nat.blt_eq] at hb
     exact .inl ⟨k, by omega, rfl⟩
    ·rename_i h
     rw [Nat.blt_eq] at hb
     exact .inr ⟨hb, by simpa using h⟩
   refine ⟨fun β h => h, fun b hb => ?_, fun b hb => ?_, fun b hb => ?_⟩
   ·rcases key b hb with ⟨k, hk, rfl⟩ | ⟨hb1, hb2⟩
    ·rw [D9 (by omega)]
     have hni : nm ls k ∉ ns := hlsns _ (C4 (by omega))
     simp only [G2]; rw [if_neg hni, (hsame k hk).1]; simp only [Gc]; rw [D9 (by omega)]
    ·rw [HH (by omega)]
     simp only [G2]; rw [if_pos (C4 (by omega)), hidx b (by omega)]
   ·rcases key b hb with ⟨k, hk, rfl⟩ | ⟨hb1, hb2⟩
    ·rw [D9 (by omega)]
     have hni : nm ls k ∉ ns := hlsns _ (C4 (by omega))
     simp only [G2]; rw [if_neg hni, (hsame k hk).2.1]; simp only [Gc]; rw [D9 (by omega)]
    ·rw [HH (by omega)]
     simp only [G2]; rw [if_pos (C4 (by omega)), hidx b (by omega)]
   ·rcases key b hb with ⟨k, hk, rfl⟩ | ⟨hb1, hb2⟩
    ·rw [D9 (by omega)]
     have hni : nm ls k ∉ ns := hlsns _ (C4 (by omega))
     simp only [G2]; rw [if_neg hni, (hsame k hk).2.2]; simp only [Gc]; rw [D9 (by omega)]
    ·rw [HH (by omega)]
     simp only [G2]; rw [if_pos (C4 (by omega)), hidx b (by omega)]
  have hext : G.ext G2 (fun b => (st.bx b).isSome = true) := by
   have : ∀ b, (st.bx b).isSome = true → b ∉ ns := fun b hb hm => by rw [hnew' b hm] at hb; cases hb
   exact ⟨fun β h => hS1 β h, fun b hb => by simp only [G2]; rw [if_neg (this b hb)], fun b hb => by simp only [G2]; rw [if_neg (this b hb)], fun b hb => by simp only [G2]; rw [if_neg (this b hb)]⟩
  have hnotL : ∀ β, LS Gc lent.length β → ∃ k, k < lent.length ∧ G.has (nm ls k) β := fun β ⟨k, hk, hb⟩ => ⟨k, hk, (hGc k β hk).1 hb⟩
  have hwS : ∀ β, G.S β → w'.heap[β]? = w.heap[β]? := fun β hβ => hbel.block β (hs.S_lt β hβ) fun h => by
   obtain ⟨k, hk, hg⟩ := hnotL β h
   exact (hs.at_ok _ _ β (hlk k hk).1 (hlk k hk).2 hg).2.2 hβ
  have hsz := hbel.size
  have hle := hs.below.size
  have hng := fun c => IT (f := nu ls ns) (bx := st.bx) (ns := ns) (rv := rv) (c := c) hns hnd
  have hbg := Jm (f := nu ls ns) (bx := st.bx) (r := newB (nu ls ns) ns rv) (ls := ls) (lent := lent) (ch := ch) hll hln hch (fun c hc => (hng c).1 (hlsns c hc)) hlb
  have hblk : ∀ c k, AT st.bx (Fc (nu ls ns) ls lent ch (newB (nu ls ns) ns rv)) c = some k →
    (c ∉ ns ∧ c ∉ ls ∧ st.bx c = some k) ∨ (∃ m x, m < ns.length ∧ nm ns m = c ∧ rv[m]? = some x ∧ k = x.ren (nu ls ns)) ∨ (∃ m x, m < ls.length ∧ nm ls m = c ∧ lent[m]? = some x ∧ k = x.2.ren (nu ls ns)) := by
   intro c k hc
   by_cases hm : c ∈ ls
   ·obtain ⟨m, hm1, hm2⟩ := IR hm
    have hlx : lent[m]? = some (lent[m]'(by omega)) := by simp [show m < lent.length from by omega]
    have := hbg.2 m _ hlx
    rw [hm2, hc] at this
    exact .inr (.inr ⟨m, _, hm1, hm2, hlx, by simpa using this⟩)
   ·rw [hbg.1 c hm] at hc
    by_cases hm2 : c ∈ ns
    ·obtain ⟨m, hm1, hm3⟩ := IR hm2
     have hrx : rv[m]? = some (rv[m]'(by omega)) := by simp [show m < rv.length from by omega]
     have := (hng c).2 m _ hrx
     rw [hm3, hc] at this
     exact .inr (.inl ⟨m, _, hm1, hm3, hrx, by simpa using this⟩)
    ·rw [(hng c).1 hm2] at hc; exact .inl ⟨hm2, hm, hc⟩
  have hdom : ∀ b, EQ lent.length rv.length b = true → (AT st.bx (Fc (nu ls ns) ls lent ch (newB (nu ls ns) ns rv)) (nu ls ns b)).isSome = true := by
   intro b hb
   unfold EQ at hb
   split at hb
   ·rename_i h
    obtain ⟨k, _, rfl⟩ := FG h
    rw [Nat.blt_eq] at hb
    have hk : k < lent.length := by omega
    rw [D9 (by omega), hbg.2 k _ (show lent[k]? = some lent[k] by simp [hk])]; rfl
   ·rename_i h
    rw [Nat.blt_eq] at hb
    have hni : nm ns b ∉ ls := fun hm => hlsns _ hm (C4 (by omega))
    rw [HH (by omega), hbg.1 _ hni, (hng (nm ns b)).2 b _ (show rv[b]? = some rv[b] by simp [hb])]; rfl
  have hren : ∀ l : List Nat, FL lent.length rv.length l = true → ∀ b, b ∈ l → EQ lent.length rv.length b = true := fun l h b hb => List.all_eq_true.1 h b hb
  have hrenB : ∀ (k : AO) b, b ∈ (k.ren (nu ls ns)).names → ∃ b0, b0 ∈ k.names ∧ b = nu ls ns b0 := by
   intro k b hb
   cases k with
   | box cs =>
    obtain ⟨c, hc, hb⟩ := AF.1 hb
    obtain ⟨c0, h0, rfl⟩ := List.mem_map.1 hc
    obtain ⟨b0, h1, h2⟩ := F5 hb
    exact ⟨b0, AF.2 ⟨c0, h0, h1⟩, h2⟩
   | vec e rows => cases hb
   | mp es => cases hb
   | dvec e cols rs => cases hb
   | pvec n e cols rs => cases hb
   | hol e cols i0 k0 c rs => exact ⟨c, by simp [AO.names], by simpa [AO.ren, AO.names] using hb⟩
   | gone => cases hb
  have hhasN : ∀ m β, m < ns.length → (G2.has (nm ns m) β ↔ G'.has m β) := fun m β hm => by
   have hmd : EQ lent.length rv.length m = true := by
    unfold EQ; rw [Ft (show m < 90000 by omega) (Nat.le_refl _), if_neg (by simp), Nat.blt_eq]; omega
   have := hvia.has (β := β) hmd
   rwa [HH (by omega)] at this
  have key : BT P X G2 ⟨st.env, AT st.bx (Fc (nu ls ns) ls lent ch (newB (nu ls ns) ns rv))⟩ a w' := by
   refine hs.frame (fun c hc => I0 hc) hext hwS ?_ ?_ ?_ ?_ ?_ ?_ (fun b hb => by
    have : b ∉ ns := fun hm => by rw [hndl.2 b hm] at hb; cases hb
    simp only [G2]; rw [if_neg this, if_neg this, if_neg this]; exact ⟨rfl, rfl, rfl⟩)
   ·intro c k hc
    rcases hblk c k hc with ⟨_, h0, h1⟩ | ⟨m, x, h1, h2, h3, h4⟩ | ⟨m, x, h1, h2, h3, h4⟩
    ·refine .inl ⟨h1, fun β hr hβ => hbel.block β (hs.at_ok c k β h1 hr hβ).2.1 fun hL => ?_⟩
     obtain ⟨j, hj, hg⟩ := hnotL β hL
     exact h0 ((hs.at_inj _ _ _ _ β h1 (hlk j hj).1 hr (hlk j hj).2 hβ hg) ▸ C4 (by omega))
    ·subst h4
     have hmd : EQ lent.length rv.length m = true := by
      unfold EQ; rw [Ft (show m < 90000 by omega) (Nat.le_refl _), if_neg (by simp), Nat.blt_eq]; omega
     have hxn := hren _ (List.all_eq_true.1 hnmV x (lM h3))
     refine .inr ⟨?_, fun c' hc' => ?_⟩
     ·have := (hvec m x h3).ren hvia hmd hxn
      rwa [HH (by omega), h2] at this
     ·obtain ⟨b0, hb0, rfl⟩ := hrenB x c' hc'
      exact hdom b0 (hxn b0 hb0)
    ·subst h4
     have hmd : EQ lent.length rv.length (90000 + m) = true := by
      unfold EQ; rw [E4 (by omega), if_pos rfl, Nat.blt_eq]; omega
     have hxn := hren _ (List.all_eq_true.1 hnmL x (lM h3))
     refine .inr ⟨?_, fun c' hc' => ?_⟩
     ·have := (hpost m x h3).ren hvia hmd hxn
      rwa [D9 (by omega), h2] at this
     ·obtain ⟨b0, hb0, rfl⟩ := hrenB x.2 c' hc'
      exact hdom b0 (hxn b0 hb0)
   ·intro c k β hc hr hβ
    rcases hblk c k hc with ⟨h0, _, h1⟩ | ⟨m, x, h1, h2, h3, h4⟩ | ⟨m, x, h1, h2, h3, h4⟩
    ·have hβ := (hext.has (by rw [h1]; rfl)).1 hβ
     have := hs.at_ok c k β h1 hr hβ
     refine ⟨this.1, by omega, fun h => ?_⟩
     rcases hS2 β h with h | h
     ·exact this.2.2 h
     ·omega
    ·rw [← h2, hhasN m β h1] at hβ
     have := hvat m β (by omega) hβ
     exact ⟨.new (by omega), this.2.1, this.2.2⟩
    ·subst h2
     have h5 := hlk m (by omega)
     have hβ := (hext.has (by rw [h5.1]; rfl)).1 hβ
     have := hs.at_ok _ _ β h5.1 h5.2 hβ
     refine ⟨this.1, by omega, hlS m β (by omega) ?_⟩
     have h6 := hsame m (by omega)
     unfold Gh.has at hβ ⊢
     rw [h6.1, h6.2.2]
     simp only [Gc]; rw [D9 (by omega)]; exact hβ
   ·intro c c' k k' β hc hc' hr hr' hβ hβ'
    have old : ∀ c k, AT st.bx (Fc (nu ls ns) ls lent ch (newB (nu ls ns) ns rv)) c = some k → k.real = true → G2.has c β → (∃ k0, st.bx c = some k0 ∧ k0.real = true ∧ G.has c β) ∨ ∃ m, m < ns.length ∧ nm ns m = c ∧ G'.has m β := by
     intro c k hc hr hβ
     rcases hblk c k hc with ⟨h0, _, h1⟩ | ⟨m, x, h1, h2, h3, h4⟩ | ⟨m, x, h1, h2, h3, h4⟩
     ·exact .inl ⟨k, h1, hr, (hext.has (by rw [h1]; rfl)).1 hβ⟩
     ·rw [← h2, hhasN m β h1] at hβ
      exact .inr ⟨m, h1, h2, hβ⟩
     ·subst h2
      have h5 := hlk m (by omega)
      exact .inl ⟨_, h5.1, h5.2, (hext.has (by rw [h5.1]; rfl)).1 hβ⟩
    rcases old c k hc hr hβ with ⟨k0, h1, h2, h3⟩ | ⟨m, h1, h2, h3⟩ <;> rcases old c' k' hc' hr' hβ' with ⟨k0', h1', h2', h3'⟩ | ⟨m', h1', h2', h3'⟩
    ·exact hs.at_inj c c' k0 k0' β h1 h1' h2 h2' h3 h3'
    ·have h5 := hvat m' β (by omega) h3'
     have h6 := (hs.at_ok c k0 β h1 h2 h3).2.1
     omega
    ·have h5 := hvat m β (by omega) h3
     have h6 := (hs.at_ok c' k0' β h1' h2' h3').2.1
     omega
    ·have := hvinj m m' β (by omega) (by omega) h3 h3'
     rw [← h2, ← h2', this]
   ·intro β h
    rcases hS2 β h with h | h
    ·have := hs.S_lt β h; omega
    ·exact h.2
   ·intro β h
    rcases hS2 β h with h | h
    ·exact hs.S_src β h
    ·exact .inr (by omega)
   ·refine hs.below.trans ⟨hbel.os, hbel.tape, hbel.output, hbel.size, fun k hk hnl => hbel.block k (by omega) fun hL => ?_⟩
    obtain ⟨j, hj, hg⟩ := hnotL k hL
    rcases (hs.at_ok _ _ k (hlk j hj).1 (hlk j hj).2 hg).1.2 with h | h
    ·omega
    ·exact hnl h
  refine hK _ _ ⟨G2, key.put (some s) (some (res.ren (nu ls ns))) v (by intro t e; cases e; exact hn) ?_⟩
  rintro d ⟨⟩
  refine ⟨hres'.ren hvia (hren _ hnmR), fun b hb => ?_⟩
  obtain ⟨b0, h1, h2⟩ := F4 hb
  rw [h2]
  exact hdom b0 (hren _ hnmR b0 h1)
end run
end Go.Lift
namespace Go.Lift
open Go.RowKit
variable {P : Program} {X : EM} {ops : Array Oper}
section run
variable {dr : Bool} {Q : St → Prop} {r i : Nat} {st : St} {log : List (Nat × Bz)} {o : Oper} {gs : List (Operand × D)}
theorem Dj.take {w : World} {S : Nat → Prop} {arr : Array Value} {e off n : Nat} {rows : List (List T)} (h : Dj w S arr e off rows) : Dj w S arr e off (rows.take n) := by
 refine ⟨?_, ?_, ?_⟩
 ·have := h.1
  have h2 : (rows.take n).length * e ≤ rows.length * e := Nat.mul_le_mul_right e (by simp; omega)
  omega
 ·intro i row hi
  have := Al hi
  simp at this
  rw [List.getElem?_take_of_lt (by omega)] at hi
  exact h.2.1 i row hi
 ·intro i row j t hi hj
  have := Al hi
  simp at this
  rw [List.getElem?_take_of_lt (by omega)] at hi
  exact h.2.2 i row j t hi hj
end run
end Go.Lift
namespace Go.Lift
open Go.RowKit
variable {P : Program} {X : EM} {ops : Array Oper}
section run
variable {dr : Bool} {Q : St → Prop} {r i : Nat} {st : St} {log : List (Nat × Bz)} {o : Oper} {gs : List (Operand × D)}
end run
section maps
variable {K V : Type}
end maps
section run
variable {dr : Bool} {Q : St → Prop} {r i : Nat} {st : St} {log : List (Nat × Bz)} {o : Oper} {gs : List (Operand × D)}
end run
end Go.Lift
namespace Go.Lift
open List renaming mem_of_getElem? → lM
open List renaming getD_eq_getElem?_getD → lD
open Go.RowKit
variable {P : Program} {X : EM} {ops : Array Oper}
section run
variable {dr : Bool} {Q : St → Prop} {r i : Nat} {st : St} {log : List (Nat × Bz)} {o : Oper} {gs : List (Operand × D)}
def vl : AO → Option (Nat × Nat)
 | .vec e rows => some (e, rows.length)
 | .dvec e _ rows => some (e, rows.length)
 | .pvec _ e _ rows => some (e, rows.length)
 | .hol e _ _ _ _ rows => some (e, rows.length)
 | _ => none
theorem OB {G : Gh} {w : World} {b e n : Nat} {k : AO} (h : Ct P w G b k) (hk : vl k = some (e, n)) : ∃ a cap, G.hd b = .slice a n cap ∧ (0 < n → ∃ β, a = some ⟨β, 0, none⟩ ∧ G.loc b = some β) := by
 cases k with
 | vec e' rows =>
  cases hk
  rcases h with ⟨a, h1, h2, _⟩ | ⟨β, cap, arr, el, h0, h1, _⟩
  ·subst h2; exact ⟨a, 0, h1, fun h => by cases h⟩
  ·exact ⟨_, cap, h1, fun _ => ⟨β, rfl, h0⟩⟩
 | dvec e' cols rows =>
  cases hk
  rcases h with ⟨a, h1, h2, _⟩ | ⟨β, cap, arr, el, Rf, h0, h1, _⟩
  ·subst h2; exact ⟨a, 0, h1, fun h => by cases h⟩
  ·exact ⟨_, cap, h1, fun _ => ⟨β, rfl, h0⟩⟩
 | pvec n_ e' cols rows =>
  obtain ⟨_, h⟩ := h
  cases hk
  rcases h with ⟨a, h1, h2, _⟩ | ⟨β, cap, arr, el, Rf, h0, h1, _⟩
  ·subst h2; exact ⟨a, 0, h1, fun h => by cases h⟩
  ·exact ⟨_, cap, h1, fun _ => ⟨β, rfl, h0⟩⟩
 | hol e' cols i0 k0 c rows =>
  cases hk
  obtain ⟨β, cap, arr, el, Rf, h0, h1, _⟩ := h
  exact ⟨_, cap, h1, fun _ => ⟨β, rfl, h0⟩⟩
 | _ => cases hk
theorem EV {x y : Operand} {s e b m : Nat} {kb : AO} {t el : TypeId} {k : IntKind} {n : Int} (hat : At st.env ops i X.n (.indexAddr t x y) s gs)
  (hx : opd st.env x = some (.e (.one (.own b)))) (hy : opd st.env y = some (vD (.int k n))) (hb : st.bx b = some kb) (hk : vl kb = some (e, m)) (ht : Bb P t el = true) (hz : E6 P el e = true) (h0 : 0 ≤ n) (hlt : n.toNat < m)
  (next : AV P X ops dr Q r (i + 1) (Bz.upd ⟨gs ++ [(x, .e (.one (.own b))), (y, vD (.int k n))], [(b, kb)], some s, some (.e (.one (.eptr b e n.toNat 0))), [], []⟩ st) ((i, ⟨gs ++ [(x, .e (.one (.own b))), (y, vD (.int k n))], [(b, kb)], some s, some (.e (.one (.eptr b e n.toNat 0))), [], []⟩) :: log)) : AV P X ops dr Q (r + 1) i st log := by
 obtain ⟨o, ho, hop, hd, hn, hg, hgp⟩ := hat.out
 refine AV.step next ⟨Ad.2 ⟨hgp, hx, hy, trivial⟩, ⟨hb, trivial⟩, trivial⟩ (LR.value ho hg rfl hd.symm (Cm hd hn) ?_)
 intro G st a w hs hpre
 obtain ⟨hx, hy, _⟩ := (Ad.1 hpre.r).2
 have hb := hpre.b.1
 obtain ⟨hR, _⟩ : CD P w G (a.eval x) (.own b) := hs.opd hx
 have hY : a.eval y = .int k n := Fm (hs.opd hy : Co w G.S (a.eval y) (.val _))
 obtain ⟨a0, cap, h1, h2⟩ := OB (hs.blk b _ hb) hk
 obtain ⟨β, g1, g2⟩ := h2 (by omega)
 subst g1
 refine ⟨_, w, G, by simp only [execOp, hop, hR, h1, hY]; exact Ag (Gk ht hz h0 hlt) rfl, hs, ?_⟩
 rintro d ⟨⟩
 exact ⟨⟨β, g2, by simp⟩, fun b' hb' => hs.opd_live hx b' (by simpa [D.names, E.names, C.names] using hb')⟩
theorem M9 {x : Operand} {s t el b e m : Nat} {kb : AO} (hat : At st.env ops i X.n (.call ⟨.builtin .len, #[x], #[t]⟩) s gs)
  (hx : opd st.env x = some (.e (.one (.own b)))) (hb : st.bx b = some kb) (hk : vl kb = some (e, m)) (ht : Bb P t el = true)
  (next : AV P X ops dr Q r (i + 1) (Bz.upd ⟨gs ++ [(x, .e (.one (.own b)))], [(b, kb)], some s, some (vD (goInt m)), [], []⟩ st) ((i, ⟨gs ++ [(x, .e (.one (.own b)))], [(b, kb)], some s, some (vD (goInt m)), [], []⟩) :: log)) : AV P X ops dr Q (r + 1) i st log := by
 obtain ⟨o, ho, hop, hd, hn, hg, hgp⟩ := hat.out
 refine AV.step next ⟨Ad.2 ⟨hgp, hx, trivial⟩, ⟨hb, trivial⟩, trivial⟩ (LR.value ho hg rfl hd.symm (Cm hd hn) ?_)
 intro G st a w hs hpre
 obtain ⟨hx, _⟩ := (Ad.1 hpre.r).2
 have hb := hpre.b.1
 obtain ⟨hR, _⟩ : CD P w G (a.eval x) (.own b) := hs.opd hx
 obtain ⟨a0, cap, h1, h2⟩ := OB (hs.blk b _ hb) hk
 refine ⟨goInt m, w, G, ?_, hs, ?_⟩
 ·simp only [execOp, hop]
  refine Fe fun cs => ?_
  simp only [List.map_toArray, List.map_cons, List.map_nil, builtin, hR, h1]
  exact Ag (Hn ht) rfl
 ·rintro d ⟨⟩
  exact ⟨.val _ rfl, fun b hb => by cases hb⟩
def Mh : Ow → Bool
 | .s => true
 | _ => false
theorem M6 {o : Ow} (h : Mh o = true) : o = .s := by cases o with
 | s => rfl
 | x e cols => cases h
theorem Lw {G : Gh} {w : World} {b e ix : Nat} {cols : List Ow} {rows : List (List T)} {row : List T} (h : Ct P w G b (.dvec e cols rows)) (hrow : rows[ix]? = some row) :
  ∃ β cap arr el, ∃ Rf : Nat → Nat → Nat → Prop, G.loc b = some β ∧ G.hd b = .slice (some ⟨β, 0, none⟩) rows.length cap ∧ w.heap[β]? = some (.cells arr el (0, 0)) ∧ rows.length ≤ cap ∧ arr.size = cap * e ∧
    (∀ (i : Nat) (row : List T), rows[i]? = some row → row.length = e) ∧ (∀ (i : Nat) (row : List T) (j : Nat) (t : T), rows[i]? = some row → row[j]? = some t → Ke w G.S (cols.getD j .s) (Rf i j) (Ah arr (i * e + j)) t) ∧
    (∀ i j γ, Rf i j γ → G.more b γ) ∧ (∀ i j, ¬ Rf i j β) ∧ (∀ i j i' j' γ, Rf i j γ → Rf i' j' γ → i = i' ∧ j = j') ∧ ix * e + e ≤ arr.size := by
 rcases h with ⟨_, _, h0, _⟩ | ⟨β, cap, arr, el, Rf, h0, h1, h2, h3, h4, h5, h6, h7, h8, h9⟩
 ·subst h0; simp at hrow
 ·refine ⟨β, cap, arr, el, Rf, h0, h1, h2, h3, h4, h5, h6, h7, h8, h9, ?_⟩
  have := Al hrow
  rw [h4, ← Nat.succ_mul]; exact Nat.mul_le_mul_right e (Nat.le_trans this h3)
end run
theorem CD.moreI {w : World} {G : Gh} {m : Nat → Nat → Prop} {v : Value} {c : C} (h : CD P w G v c) : CD P w { G with more := m } v c := by
 cases c with
 | cls f caps =>
  obtain ⟨vs, h1, h2, h3⟩ := h
  refine ⟨vs, h1, h2, fun j c hj => ?_⟩
  have := h3 j c hj
  cases c <;> exact this
 | _ => exact h
theorem EL.moreI {w : World} {G : Gh} {m : Nat → Nat → Prop} {v : Value} {x : E} (h : EL P w G v x) : EL P w { G with more := m } v x := by
 cases x with
 | one c => exact CD.moreI h
 | agg cs => obtain ⟨vs, e, hs, h⟩ := h; exact ⟨vs, e, hs, fun j c hj => (h j c hj).moreI⟩
theorem DZ.moreI {w : World} {G : Gh} {m : Nat → Nat → Prop} {v : Value} {d : D} (h : DZ P w G v d) : DZ P w { G with more := m } v d := by
 cases d with
 | e x => exact EL.moreI h
 | tup xs => obtain ⟨vs, e, hs, h⟩ := h; exact ⟨vs, e, hs, fun j c hj => (h j c hj).moreI⟩
theorem Ct.moreI {w : World} {G : Gh} {m : Nat → Nat → Prop} {b : Nat} {k : AO} (h : Ct P w G b k) (hm : m b = G.more b) : Ct P w { G with more := m } b k := by
 cases k with
 | box cells => obtain ⟨β, arr, el, h1, h2, h3, h4⟩ := h; exact ⟨β, arr, el, h1, h2, h3, fun j c hj => (h4 j c hj).moreI⟩
 | vec e rows => exact h
 | mp es => exact h
 | dvec e cols rows =>
  rcases h with h | ⟨β, cap, arr, el, Rf, h0, h1, h2, h3, h4, h5, h6, h7, h8⟩
  ·exact .inl h
  ·exact .inr ⟨β, cap, arr, el, Rf, h0, h1, h2, h3, h4, h5, h6, fun i j γ hγ => by show m b γ; rw [hm]; exact h7 i j γ hγ, h8⟩
 | pvec n e cols rows =>
  obtain ⟨hn, h⟩ := h
  refine ⟨hn, ?_⟩
  rcases h with h | ⟨β, cap, arr, el, Rf, h0, h1, h2, h3, h4, h5, h6, h7, h8⟩
  ·exact .inl h
  ·exact .inr ⟨β, cap, arr, el, Rf, h0, h1, h2, h3, h4, h5, h6, fun i j γ hγ => by show m b γ; rw [hm]; exact h7 i j γ hγ, h8⟩
 | hol e cols i0 k0 c rows =>
  obtain ⟨β, cap, arr, el, Rf, h0, h1, h2, h3, h4, h5, h6, h7, h8⟩ := h
  exact ⟨β, cap, arr, el, Rf, h0, h1, h2, h3, h4, h5, h6, fun i j γ hγ => by show m b γ; rw [hm]; exact h7 i j γ hγ, h8⟩
 | gone => trivial
theorem BT.frame2 {G G' : Gh} {st : St} {bx' : Nat → Option AO} {a : Act} {w w' : World} (h : BT P X G st a w)
  (hlive : ∀ b, (st.bx b).isSome = true → (bx' b).isSome = true)
  (hS : ∀ β, G.S β → G'.S β) (hloc : ∀ b, (st.bx b).isSome = true → G'.loc b = G.loc b) (hhd : ∀ b, (st.bx b).isSome = true → G'.hd b = G.hd b)
  (hw : ∀ β, G.S β → w'.heap[β]? = w.heap[β]?)
  (hb : ∀ b k, bx' b = some k → (st.bx b = some k ∧ G'.more b = G.more b ∧ ∀ β, k.real = true → G.has b β → w'.heap[β]? = w.heap[β]?) ∨ (Ct P w' G' b k ∧ ∀ c, c ∈ k.names → (bx' c).isSome = true))
  (hat : ∀ b k β, bx' b = some k → k.real = true → G'.has b β → It X b β ∧ β < w'.heap.size ∧ ¬ G'.S β)
  (hinj : ∀ b c k l β, bx' b = some k → bx' c = some l → k.real = true → l.real = true → G'.has b β → G'.has c β → b = c)
  (hS1 : ∀ β, G'.S β → β < w'.heap.size) (hS2 : ∀ β, G'.S β → X.S0 β ∨ X.w0.heap.size ≤ β)
  (hbel : BC X.L X.w0.heap.size X.w0 w') (hL : ∀ b, AR b = true → G'.loc b = G.loc b ∧ G'.hd b = G.hd b ∧ G'.more b = G.more b) : BT P X G' { st with bx := bx' } a w' := by
 let G2 : Gh := { G' with more := G.more }
 have hext : G.ext G2 (fun b => (st.bx b).isSome = true) := ⟨hS, hloc, hhd, fun _ _ => rfl⟩
 have e0 : ({ G2 with more := G'.more } : Gh) = G' := rfl
 exact {
  S_lt := hS1
  S_src := hS2
  S_0 := fun β hβ => hS β (h.S_0 β hβ)
  S0_lt := h.S0_lt
  blk := fun b k hk => by
   rcases hb b k hk with ⟨h1, h2, h3⟩ | ⟨h1, _⟩
   ·have := (h.blk b k h1).mono hext (by simp [h1]) hw h3 fun c hc => h.liveB b k h1 c hc
    have := this.moreI (m := G'.more) h2
    rwa [e0] at this
   ·exact h1
  at_ok := hat
  at_inj := hinj
  env := fun s d hs => by
   have := ((h.env s d hs).mono hext hw (h.live s d hs)).moreI (m := G'.more)
   rwa [e0] at this
  live := fun s d hs b hb' => hlive b (h.live s d hs b hb')
  liveB := fun b k hk c hc => by
   rcases hb b k hk with ⟨h1, _⟩ | ⟨_, h2⟩
   ·exact hlive c (h.liveB b k h1 c hc)
   ·exact h2 c hc
  tsz := h.tsz
  nlt := h.nlt
  lent := fun b hb => by
   obtain ⟨h1, h2, h3⟩ := hL b (GX hb)
   rw [h1, h2, h3]; exact h.lent b hb
  defers := h.defers
  below := hbel }
def CQ (e : Nat) (cols : List Ow) (rows : List (List T)) : AO := if cols.all Mh then .vec e rows else .dvec e cols rows
theorem KT {cols : List Ow} (h : cols.all Mh = true) (j : Nat) : cols.getD j .s = .s := by
 rw [lD]
 cases hc : cols[j]? with
 | none => rfl
 | some o => exact M6 (List.all_eq_true.1 h o (lM hc))
theorem CP {e : Nat} {cols : List Ow} {rows : List (List T)} : (CQ e cols rows).real = true := by unfold CQ; split <;> rfl
theorem HV {e : Nat} {cols : List Ow} {rows : List (List T)} : (CQ e cols rows).names = [] := by unfold CQ; split <;> rfl
theorem KL {G : Gh} {w : World} {e : Nat} {cols : List Ow} {R : Nat → Prop} {v : Value} {rows : List (List T)} (h : Ke w G.S (.x e cols) R v (.sl rows)) :
  ∃ (l : Option Nat) (m : Nat → Prop), (∀ β, l = some β ∨ m β → R β) ∧ (∃ p n q, v = .slice p n q) ∧ ∀ (G' : Gh) (b : Nat), (∀ β, G.S β → G'.S β) → G'.loc b = l → G'.hd b = v → (∀ β, m β → G'.more b β) → Ct P w G' b (CQ e cols rows) := by
 cases h with
 | nil a =>
  refine ⟨none, fun _ => False, fun β h => (h.elim (fun h => by cases h) (fun h => h.elim)), ⟨_, _, _, rfl⟩, fun G' b hS h1 h2 h3 => ?_⟩
  unfold CQ
  split
  ·exact .inl ⟨a, h2, rfl, h1⟩
  ·exact .inl ⟨a, h2, rfl, h1⟩
 | sl β cap _ _ arr el _ Rf k1 k2 k3 k4 k5 k6 k7 k8 k9 =>
  refine ⟨some β, fun γ => ∃ i j, Rf i j γ, fun γ h => ?_, ⟨_, _, _, rfl⟩, fun G' b hS h1 h2 h3 => ?_⟩
  ·rcases h with h | ⟨i, j, h⟩
   ·cases h; exact k6
   ·exact k7 i j γ h
  ·unfold CQ
   split
   ·rename_i hall
    refine .inr ⟨β, cap, arr, el, h1, h2, k1, k2, k3, k4, fun i row j t hi hj => ?_⟩
    have := k5 i row j t hi hj
    rw [KT hall] at this
    cases this with
    | s h => exact h.mono (fun _ _ => rfl) hS
   ·exact .inr ⟨β, cap, arr, el, Rf, h1, h2, k1, k2, k3, k4, fun i row j t hi hj => (k5 i row j t hi hj).mono (fun _ _ => rfl) hS (fun _ h => h), fun i j γ hγ => h3 γ ⟨i, j, hγ⟩, k8, k9⟩
theorem Kl {G : Gh} {w : World} {b e : Nat} {cols : List Ow} {rows : List (List T)} (h : Ct P w G b (CQ e cols rows)) : Ke w G.S (.x e cols) (G.has b) (G.hd b) (.sl rows) := by
 unfold CQ at h
 split at h
 ·rename_i hall
  rcases h with ⟨a, h1, h2, _⟩ | ⟨β, cap, arr, el, h0, h1, h2, h3, h4, h5, h6⟩
  ·rw [h1, h2]; exact .nil a e cols
  ·rw [h1]
   exact .sl β cap e cols arr el rows (fun _ _ _ => False) h2 h3 h4 h5 (fun i row j t hi hj => by rw [KT hall]; exact .s (h6 i row j t hi hj)) (.inl h0) (fun _ _ _ h => h.elim) (fun _ _ h => h) (fun _ _ _ _ _ h => h.elim)
 ·rcases h with ⟨a, h1, h2, _⟩ | ⟨β, cap, arr, el, Rf, h0, h1, h2, h3, h4, h5, h6, h7, h8, h9⟩
  ·rw [h1, h2]; exact .nil a e cols
  ·rw [h1]
   exact .sl β cap e cols arr el rows Rf h2 h3 h4 h5 h6 (.inl h0) (fun i j γ hγ => .inr (h7 i j γ hγ)) h8 h9
section run
variable {dr : Bool} {Q : St → Prop} {r i : Nat} {st : St} {log : List (Nat × Bz)} {o : Oper} {gs : List (Operand × D)}
theorem KY {x : Operand} {b e ix k s e2 : Nat} {cols cols2 : List Ow} {rows rows2 : List (List T)} {row : List T} {t : TypeId} (hat : At st.env ops i X.n (.load t x) s gs)
  (hx : opd st.env x = some (.e (.one (.eptr b e ix k)))) (ht : CH P t false = true) (hb : st.bx b = some (.dvec e cols rows)) (hrow : rows[ix]? = some row) (hc : row[k]? = some (.sl rows2)) (hcol : cols.getD k .s = .x e2 cols2) (hbl : AR b = false) (hnew : st.bx s = none)
  (next : AV P X ops dr Q r (i + 1) (Bz.upd ⟨gs ++ [(x, .e (.one (.eptr b e ix k)))], [(b, .dvec e cols rows)], some s, some (.e (.one (.own s))), [(b, .hol e cols ix k s rows), (s, CQ e2 cols2 rows2)], [s]⟩ st) ((i, ⟨gs ++ [(x, .e (.one (.eptr b e ix k)))], [(b, .dvec e cols rows)], some s, some (.e (.one (.own s))), [(b, .hol e cols ix k s rows), (s, CQ e2 cols2 rows2)], [s]⟩) :: log)) : AV P X ops dr Q (r + 1) i st log := by
 obtain ⟨o, ho, hop, hd, hn, hg, hgp⟩ := hat.out
 refine AV.step next ⟨Ad.2 ⟨hgp, hx, trivial⟩, ⟨hb, trivial⟩, hnew, trivial⟩ (LR.value ho hg rfl hd.symm (Cm hd hn) ?_)
 intro G st a w hs hpre
 have hx := (Ad.1 hpre.r).2.1
 have hb := hpre.b.1
 have hnew := hpre.n.1
 have hsb : s ≠ b := fun e => by rw [e, hb] at hnew; cases hnew
 obtain ⟨β, hβ, hv⟩ : CD P w G (a.eval x) (.eptr b e ix k) := hs.opd hx
 obtain ⟨β', cap, arr, el, Rf, h0, h1, h2, h3, h4, h5, h6, h7, h8, h9, h10⟩ := Lw (hs.blk b _ hb) hrow
 rw [hβ] at h0; cases h0
 have hre := h5 ix row hrow
 have hk := Al hc
 have hcell := h6 ix row k _ hrow hc
 rw [hcol] at hcell
 obtain ⟨l, m, g1, g2, g3⟩ := KL (P := P) hcell
 let G' : Gh := { S := G.S, loc := fun c => if c = s then l else G.loc c, hd := fun c => if c = s then Ah arr (ix * e + k) else G.hd c, more := fun c => if c = s then m else if c = b then (fun γ => G.more b γ ∧ ¬ Rf ix k γ) else G.more c }
 have hsome : ∀ c, (st.bx c).isSome = true → c ≠ s := fun c hc e => by rw [e, hnew] at hc; cases hc
 have hbx : ∀ c, AT st.bx [(b, .hol e cols ix k s rows), (s, CQ e2 cols2 rows2)] c = if c = b then some (.hol e cols ix k s rows) else if c = s then some (CQ e2 cols2 rows2) else st.bx c := fun c => rfl
 have hasS : ∀ γ, G'.has s γ → Rf ix k γ := fun γ h => by
  unfold Gh.has at h
  simp only [G', if_true] at h
  exact g1 γ h
 have hasB : ∀ γ, G'.has b γ → G.has b γ ∧ ¬ Rf ix k γ := fun γ h => by
  unfold Gh.has at h
  simp only [G', if_neg hsb.symm, if_true] at h
  rcases h with h | h
  ·refine ⟨.inl h, fun hr => ?_⟩
   rw [hβ] at h; cases h
   exact h8 ix k hr
  ·exact ⟨.inr h.1, h.2⟩
 have hasO : ∀ c γ, c ≠ s → c ≠ b → (G'.has c γ ↔ G.has c γ) := fun c γ h1 h2 => by
  unfold Gh.has
  simp only [G', if_neg h1, if_neg h2]
 have hbl2 := hs.nl hn
 have key : BT P X G' ⟨st.env, AT st.bx [(b, .hol e cols ix k s rows), (s, CQ e2 cols2 rows2)]⟩ a w := by
  refine hs.frame2 ?_ (fun _ h => h) (fun c hc => by simp only [G']; rw [if_neg (hsome c hc)]) (fun c hc => by simp only [G']; rw [if_neg (hsome c hc)]) (fun _ _ => rfl) ?_ ?_ ?_ hs.S_lt hs.S_src hs.below (fun c hc => ?_)
  ·intro c hc; rw [hbx]; split
   ·rfl
   ·split
    ·rfl
    ·exact hc
  ·intro c kk hc
   rw [hbx] at hc
   split at hc
   ·rename_i e1; subst e1; cases hc
    refine .inr ⟨⟨β, cap, arr, el, fun i j γ => Rf i j γ ∧ ¬ (i = ix ∧ j = k), ?_, ?_, h2, h3, h4, h5, ?_, ?_, fun i j h => h8 i j h.1, fun i j i' j' γ h h' => h9 i j i' j' γ h.1 h'.1, ?_, ?_⟩, fun c' hc' => ?_⟩
    ·simp only [G', if_neg hsb.symm]; exact hβ
    ·simp only [G', if_neg hsb.symm]; exact h1
    ·intro i0 row0 j0 t0 hi hj hne
     exact (h6 i0 row0 j0 t0 hi hj).mono (fun _ _ => rfl) (fun _ h => h) (fun γ hγ => ⟨hγ, hne⟩)
    ·intro i0 j0 γ hγ
     simp only [G', if_neg hsb.symm, if_true]
     exact ⟨h7 i0 j0 γ hγ.1, fun hr => hγ.2 (h9 i0 j0 ix k γ hγ.1 hr)⟩
    ·simp only [G', if_true]
    ·simp only [G', if_true]; exact g2
    ·have : c' = s := by simpa [AO.names] using hc'
     subst this
     rw [hbx, if_neg hsb, if_pos rfl]; rfl
   ·rename_i e1
    split at hc
    ·rename_i e2'; subst e2'; cases hc
     exact .inr ⟨g3 G' c (fun _ h => h) (by simp [G']) (by simp [G']) (fun γ hγ => by simp [G', hγ]), fun c' hc' => by rw [HV] at hc'; cases hc'⟩
    ·rename_i e2'
     exact .inl ⟨hc, by simp only [G', if_neg e1, if_neg e2'], fun _ _ _ => rfl⟩
  ·intro c kk γ hc hr hγ
   rw [hbx] at hc
   split at hc
   ·rename_i e1; subst e1
    exact hs.at_ok c _ γ hb rfl (hasB γ hγ).1
   ·rename_i e1
    split at hc
    ·rename_i e2'; subst e2'
     have := hs.at_ok b _ γ hb rfl (.inr (h7 ix k γ (hasS γ hγ)))
     exact ⟨.new (this.1.1 hbl), this.2⟩
    ·rename_i e2'
     exact hs.at_ok c kk γ hc hr ((hasO c γ e2' e1).1 hγ)
  ·intro c c' kk kk' γ hc hc' hr hr' hγ hγ'
   rw [hbx] at hc hc'
   have cl : ∀ c kk, (if c = b then some (AO.hol e cols ix k s rows) else if c = s then some (CQ e2 cols2 rows2) else st.bx c) = some kk → kk.real = true → G'.has c γ → (c = b ∧ G.has b γ ∧ ¬ Rf ix k γ) ∨ (c = s ∧ Rf ix k γ) ∨ (c ≠ b ∧ st.bx c = some kk ∧ G.has c γ) := by
    intro c kk hc hr hγ
    split at hc
    ·rename_i e1; subst e1; exact .inl ⟨rfl, hasB γ hγ⟩
    ·rename_i e1
     split at hc
     ·rename_i e2'; subst e2'; exact .inr (.inl ⟨rfl, hasS γ hγ⟩)
     ·rename_i e2'; exact .inr (.inr ⟨e1, hc, (hasO c γ e2' e1).1 hγ⟩)
   rcases cl c kk hc hr hγ with ⟨q1, q2, q3⟩ | ⟨q1, q2⟩ | ⟨q1, q2, q3⟩ <;> rcases cl c' kk' hc' hr' hγ' with ⟨q1', q2', q3'⟩ | ⟨q1', q2'⟩ | ⟨q1', q2', q3'⟩
   ·rw [q1, q1']
   ·exact (q3 q2').elim
   ·exact (q1' (hs.at_inj c' b _ _ γ q2' hb hr' rfl q3' q2)).elim
   ·exact (q3' q2).elim
   ·rw [q1, q1']
   ·exact (q1' (hs.at_inj c' b _ _ γ q2' hb hr' rfl q3' (.inr (h7 ix k γ q2)))).elim
   ·exact (q1 (hs.at_inj c b _ _ γ q2 hb hr rfl q3 q2')).elim
   ·exact (q1 (hs.at_inj c b _ _ γ q2 hb hr rfl q3 (.inr (h7 ix k γ q2')))).elim
   ·exact hs.at_inj c c' kk kk' γ q2 q2' hr hr' q3 q3'
  ·have e1 : c ≠ s := fun e => by rw [e, hbl2] at hc; cases hc
   have e2' : c ≠ b := fun e => by rw [e, hbl] at hc; cases hc
   refine ⟨?_, ?_, ?_⟩ <;> simp only [G', if_neg e1, if_neg e2']
 refine ⟨Ah arr (ix * e + k), w, G', ?_, key, ?_⟩
 ·simp only [execOp, hop, hv]
  exact Ag (Es ht h2 (by omega)) rfl
 ·rintro d ⟨⟩
  refine ⟨⟨by simp [G'], g2⟩, fun b' hb' => ?_⟩
  have : b' = s := by simpa [D.names, E.names, C.names] using hb'
  subst this
  rw [hbx, if_neg hsb, if_pos rfl]; rfl
end run
def Hq (cols : List Ow) : Nat → List T → Option (List T)
 | _, [] => some []
 | j, t :: ts => match Hq cols (j + 1) ts with
  | none => none
  | some us => if Mh (cols.getD j .s) then some (t :: us) else match t with
   | .nil0 => some (.sl [] :: us)
   | _ => none
theorem Gr {cols : List Ow} : ∀ {ts us : List T} {j0 : Nat}, Hq cols j0 ts = some us → us.length = ts.length ∧ ∀ (j : Nat) (u : T), us[j]? = some u → ∃ t, ts[j]? = some t ∧ ((Mh (cols.getD (j0 + j) .s) = true ∧ u = t) ∨ (Mh (cols.getD (j0 + j) .s) = false ∧ t = .nil0 ∧ u = .sl []))
 | [], us, j0, h => by cases h; exact ⟨rfl, fun j u hj => by simp at hj⟩
 | t :: ts, us, j0, h => by
  simp only [Hq] at h
  cases hr : Hq cols (j0 + 1) ts with
  | none => rw [hr] at h; cases h
  | some vs =>
   rw [hr] at h
   obtain ⟨g1, g2⟩ := Gr hr
   have step : ∀ (x : T), ((Mh (cols.getD j0 .s) = true ∧ x = t) ∨ (Mh (cols.getD j0 .s) = false ∧ t = .nil0 ∧ x = .sl [])) → us = x :: vs → us.length = (t :: ts).length ∧ ∀ (j : Nat) (u : T), us[j]? = some u → ∃ t', (t :: ts)[j]? = some t' ∧ ((Mh (cols.getD (j0 + j) .s) = true ∧ u = t') ∨ (Mh (cols.getD (j0 + j) .s) = false ∧ t' = .nil0 ∧ u = .sl [])) := by
    intro x hx hu
    subst hu
    refine ⟨by simp [g1], fun j u hj => ?_⟩
    cases j with
    | zero => simp at hj; subst hj; exact ⟨t, rfl, hx⟩
    | succ j =>
     obtain ⟨t', q1, q2⟩ := g2 j u (by simpa using hj)
     rw [show j0 + 1 + j = j0 + (j + 1) from by omega] at q2
     exact ⟨t', by simpa using q1, q2⟩
   by_cases hs : Mh (cols.getD j0 .s) = true
   ·simp only [hs, if_true] at h
    cases h; exact step t (.inl ⟨hs, rfl⟩) rfl
   ·simp only [if_neg hs] at h
    cases t with
    | nil0 => cases h; exact step _ (.inr ⟨by simpa using hs, rfl, rfl⟩) rfl
    | _ => cases h
theorem Gt {st : St} (b e : Nat) (cols : List Ow) (rows rows' : List (List T)) (hb : st.bx b = some (.vec e rows)) (hr : rows.mapM (Hq cols 0) = some rows') : DY P X st (St.setB st b (.dvec e cols rows')) := by
 rintro a w ⟨G, h⟩
 obtain ⟨g1, g2⟩ := IQ hr
 refine ⟨G, h.frame (bx' := (St.setB st b (.dvec e cols rows')).bx) ?_ ⟨fun _ h => h, fun _ _ => rfl, fun _ _ => rfl, fun _ _ => rfl⟩ (fun _ _ => rfl) ?_ ?_ ?_ h.S_lt h.S_src h.below (fun _ _ => ⟨rfl, rfl, rfl⟩)⟩
 ·intro c hc; simp only [St.setB]; split <;> simp [hc]
 ·intro c k hc
  simp only [St.setB] at hc
  split at hc
  ·rename_i e1; subst e1; cases hc
   refine .inr ⟨?_, fun c' hc' => by cases hc'⟩
   rcases h.blk c _ hb with ⟨a0, h1, h2, h3⟩ | ⟨β, cap, arr, el, h0, h1, h2, h3, h4, h5, h6⟩
   ·refine .inl ⟨a0, h1, ?_, h3⟩
    subst h2
    exact List.eq_nil_of_length_eq_zero (by simpa using g1)
   ·refine .inr ⟨β, cap, arr, el, fun _ _ _ => False, h0, by rw [g1]; exact h1, h2, by rw [g1]; exact h3, h4, ?_, ?_, fun _ _ _ h => h.elim, fun _ _ h => h, fun _ _ _ _ _ h => h.elim⟩
    ·intro i row hi
     obtain ⟨row0, q1, q2⟩ := g2 i row hi
     rw [(Gr q2).1]; exact h5 i row0 q1
    ·intro i row j t hi hj
     obtain ⟨row0, q1, q2⟩ := g2 i row hi
     obtain ⟨t0, q3, q4⟩ := (Gr q2).2 j t hj
     have hv := h6 i row0 j t0 q1 q3
     rw [Nat.zero_add] at q4
     rcases q4 with ⟨q5, q6⟩ | ⟨q5, q6, q7⟩
     ·rw [M6 q5, q6]; exact .s hv
     ·subst q6; subst q7
      generalize Ah arr (i * e + j) = v at hv
      cases hv with
      | nil0 a' =>
       cases hcol : cols.getD j .s with
       | s => rw [hcol] at q5; cases q5
       | x e2 cols2 => exact .nil a' e2 cols2
  ·exact .inl ⟨hc, fun _ _ _ => rfl⟩
 ·intro c k β hc hr hβ
  simp only [St.setB] at hc
  split at hc
  ·rename_i e1; subst e1; exact h.at_ok _ _ β hb rfl hβ
  ·exact h.at_ok c k β hc hr hβ
 ·intro c c' k k' β hc hc' hr hr' hβ hβ'
  simp only [St.setB] at hc hc'
  have old : ∀ c k, (if c = b then some (AO.dvec e cols rows') else st.bx c) = some k → k.real = true → ∃ k0, st.bx c = some k0 ∧ k0.real = true := by
   intro c k hc hr
   split at hc
   ·rename_i e1; subst e1; exact ⟨_, hb, rfl⟩
   ·exact ⟨k, hc, hr⟩
  obtain ⟨k0, q1, q2⟩ := old c k hc hr
  obtain ⟨k0', q1', q2'⟩ := old c' k' hc' hr'
  exact h.at_inj c c' k0 k0' β q1 q1' q2 q2' hβ hβ'
end Go.Lift
namespace Go.Lift
open Go.RowKit
variable {P : Program} {X : EM} {ops : Array Oper}
theorem KO {w : World} {β off e n len cap : Nat} {arr : Array Value} {el : TypeId} {fz : Nat × Nat} (hb : w.heap[β]? = some (.cells arr el fz)) (h : off + n * e ≤ arr.size) :
  ∃ news : Array Value, (∀ w' : World, w'.heap = w.heap → (Builtin.firstCells e n (.slice (some ⟨β, off, none⟩) len cap)).run P w' = .ok news w') ∧ news.size = n * e ∧ ∀ j, j < n * e → Ah news j = Ah arr (off + j) :=
 ⟨_, fun w' hw' => Ep (by rw [hw']; exact hb) h, by simp, fun j hj => D6 hj⟩
section run
variable {dr : Bool} {Q : St → Prop} {r i : Nat} {st : St} {log : List (Nat × Bz)} {o : Oper} {gs : List (Operand × D)}
structure FX (w : World) (S : Nat → Prop) (e : Nat) (cols : List Ow) (rows : List (List T)) (Rf : Nat → Nat → Nat → Prop) (f : Nat → Value) : Prop where
 len : ∀ (i : Nat) (row : List T), rows[i]? = some row → row.length = e
 cell : ∀ (i : Nat) (row : List T) (j : Nat) (t : T), rows[i]? = some row → row[j]? = some t → Ke w S (cols.getD j .s) (Rf i j) (f (i * e + j)) t
 dis : ∀ i j i' j' γ, Rf i j γ → Rf i' j' γ → i = i' ∧ j = j'
theorem FX.ones {w : World} {S : Nat → Prop} {e : Nat} {cols : List Ow} {rows : List (List T)} {Rf : Nat → Nat → Nat → Prop} {arr : Array Value} (h : FX w S e cols rows Rf (Ah arr)) (hs : arr.size = rows.length * e) : ∀ u, u ∈ arr.toList → EJ u = true := by
 intro u hu
 obtain ⟨k, hk⟩ := List.mem_iff_getElem?.1 hu
 have hk' : arr[k]? = some u := by simpa using hk
 have hlt : k < arr.size := by
  rcases Nat.lt_or_ge k arr.size with h' | h'
  ·exact h'
  ·rw [Array.getElem?_eq_none h'] at hk'; cases hk'
 rcases Nat.eq_zero_or_pos e with e0 | e0
 ·rw [e0, Nat.mul_zero] at hs; omega
 have h1 : k / e < rows.length := (Nat.div_lt_iff_lt_mul e0).2 (by omega)
 have h2 : k % e < e := Nat.mod_lt _ e0
 have hrow : rows[k / e]? = some rows[k / e] := by simp [h1]
 have hlen := h.len _ _ hrow
 have hcell : (rows[k / e])[k % e]? = some ((rows[k / e])[k % e]'(by omega)) := by simp [show k % e < rows[k / e].length from by omega]
 have := (h.cell _ _ _ _ hrow hcell).one
 rw [show k / e * e + k % e = k from by rw [Nat.mul_comm]; exact Nat.div_add_mod k e] at this
 simpa [Ah, hk'] using this
theorem FX.app {w w' : World} {S : Nat → Prop} {e : Nat} {cols : List Ow} {rows rows2 : List (List T)} {Rf Rf2 : Nat → Nat → Nat → Prop} {f f2 g : Nat → Value} (h1 : FX w S e cols rows Rf f) (h2 : FX w S e cols rows2 Rf2 f2)
  (hx : ∀ i j i' j' γ, Rf i j γ → Rf2 i' j' γ → False) (hg1 : ∀ j, j < rows.length * e → g j = f j) (hg2 : ∀ j, j < rows2.length * e → g (rows.length * e + j) = f2 j)
  (hw : ∀ γ, S γ ∨ (∃ i j, Rf i j γ ∨ Rf2 i j γ) → w'.heap[γ]? = w.heap[γ]?) : FX w' S e cols (rows ++ rows2) (fun i j γ => if i < rows.length then Rf i j γ else Rf2 (i - rows.length) j γ) g := by
 have hlen : ∀ (i : Nat) (row : List T), (rows ++ rows2)[i]? = some row → row.length = e := fun i row hi => by
  rcases Nat.lt_or_ge i rows.length with h | h
  ·rw [List.getElem?_append_left h] at hi; exact h1.len i row hi
  ·rw [List.getElem?_append_right h] at hi; exact h2.len _ row hi
 refine ⟨hlen, fun i row j t hi hj => ?_, fun i j i' j' γ hγ hγ' => ?_⟩
 ·have hj' := Al hj
  have he := hlen i row hi
  rcases Nat.lt_or_ge i rows.length with h | h
  ·rw [List.getElem?_append_left h] at hi
   have hle : i * e + e ≤ rows.length * e := by rw [← Nat.succ_mul]; exact Nat.mul_le_mul_right e h
   rw [hg1 _ (by omega)]
   exact (h1.cell i row j t hi hj).mono (fun γ hγ => hw γ (hγ.imp id fun hr => ⟨i, j, .inl hr⟩)) (fun _ h => h) (fun γ hγ => by rw [if_pos h]; exact hγ)
  ·rw [List.getElem?_append_right h] at hi
   have hi2 := Al hi
   have hle : (i - rows.length) * e + e ≤ rows2.length * e := by rw [← Nat.succ_mul]; exact Nat.mul_le_mul_right e hi2
   have hsplit : i * e + j = rows.length * e + ((i - rows.length) * e + j) := by
    rw [← Nat.add_assoc, ← Nat.add_mul, show rows.length + (i - rows.length) = i from by omega]
   rw [hsplit, hg2 _ (by omega)]
   exact (h2.cell _ row j t hi hj).mono (fun γ hγ => hw γ (hγ.imp id fun hr => ⟨_, j, .inr hr⟩)) (fun _ h => h) (fun γ hγ => by rw [if_neg (by omega)]; exact hγ)
 ·split at hγ <;> split at hγ'
  ·exact h1.dis i j i' j' γ hγ hγ'
  ·exact (hx _ _ _ _ γ hγ hγ').elim
  ·exact (hx _ _ _ _ γ hγ' hγ).elim
  ·have := h2.dis _ j _ j' γ hγ hγ'
   exact ⟨by omega, this.2⟩
theorem BT.dparts {G : Gh} {a : Act} {w : World} (hs : BT P X G st a w) {x : Operand} {b e : Nat} {cols : List Ow} {rows : List (List T)} (hx : Lift.opd st.env x = some (.e (.one (.own b)))) (hb : st.bx b = some (.dvec e cols rows)) :
  ∃ p cap, a.eval x = .slice p rows.length cap ∧ rows.length ≤ cap ∧ ((rows = [] ∧ cap = 0) ∨ ∃ β arr el, ∃ Rf : Nat → Nat → Nat → Prop, p = some ⟨β, 0, none⟩ ∧ G.loc b = some β ∧ w.heap[β]? = some (.cells arr el (0, 0)) ∧ arr.size = cap * e ∧ FX w G.S e cols rows Rf (Ah arr) ∧ (∀ i j γ, Rf i j γ → G.more b γ) ∧ (∀ i j, ¬ Rf i j β)) := by
 obtain ⟨hR, _⟩ : CD P w G (a.eval x) (.own b) := hs.opd hx
 rcases hs.blk b _ hb with ⟨a0, h1, h2, _⟩ | ⟨β, cap, arr, el, Rf, h0, h1, h2, h3, h4, h5, h6, h7, h8, h9⟩
 ·subst h2; exact ⟨a0, 0, hR.trans h1, Nat.le_refl _, .inl ⟨rfl, rfl⟩⟩
 ·exact ⟨_, cap, hR.trans h1, h3, .inr ⟨β, arr, el, Rf, rfl, h0, h2, h4, ⟨h5, h6, h9⟩, h7, h8⟩⟩
theorem Js {x y : Operand} {t t2 el el2 s b b2 e bytes : Nat} {cols : List Ow} {rows rows2 rows' : List (List T)} {z : Value} (hat : At st.env ops i X.n (.call ⟨.builtin .append, #[x, y], #[t, t2]⟩) s gs)
  (hx : opd st.env x = some (.e (.one (.own b)))) (hb : st.bx b = some (.dvec e cols rows)) (hy : opd st.env y = some (.e (.one (.own b2)))) (hb2 : st.bx b2 = some (.dvec e cols rows2)) (hnew : st.bx s = none) (hne : b ≠ b2)
  (ht : Bb P t el = true) (ht2 : Bb P t2 el2 = true) (he : E6 P el e = true) (hby : Eh P el bytes = true) (hbs : bytes ≤ 4096) (hz : C0 P el = some z) (hzs : z.cells.size = e) (hlim : rows.length + rows2.length ≤ Dr) (hr : rows ++ rows2 = rows') (hbl : AR b = false) (hbl2 : AR b2 = false)
  (next : AV P X ops dr Q r (i + 1) (Bz.upd ⟨gs ++ [(x, .e (.one (.own b))), (y, .e (.one (.own b2)))], [(b, .dvec e cols rows), (b2, .dvec e cols rows2)], some s, some (.e (.one (.own s))), (s, .dvec e cols rows') :: DC [b, b2], [s]⟩ st) ((i, ⟨gs ++ [(x, .e (.one (.own b))), (y, .e (.one (.own b2)))], [(b, .dvec e cols rows), (b2, .dvec e cols rows2)], some s, some (.e (.one (.own s))), (s, .dvec e cols rows') :: DC [b, b2], [s]⟩) :: log)) : AV P X ops dr Q (r + 1) i st log := by
 obtain ⟨o, ho, hop, hd, hn, hg, hgp⟩ := hat.out
 refine AV.step next ⟨Ad.2 ⟨hgp, hx, hy, trivial⟩, ⟨hb, hb2, trivial⟩, hnew, trivial⟩ (LR.value ho hg rfl hd.symm (Cm hd hn) ?_)
 intro G st a w hs hpre
 obtain ⟨hx, hy, _⟩ := (Ad.1 hpre.r).2
 obtain ⟨hb, hb2, _⟩ := hpre.b
 have hnew := hpre.n.1
 subst hr
 have hsb : s ≠ b := fun e' => by rw [e', hb] at hnew; cases hnew
 have hsb2 : s ≠ b2 := fun e' => by rw [e', hb2] at hnew; cases hnew
 have hnl := hs.nl hn
 obtain ⟨p, cap, hx1, hx2, hx3⟩ := hs.dparts hx hb
 obtain ⟨p2, cap2, hy1, hy2, hy3⟩ := hs.dparts hy hb2
 have hbx : ∀ c, AT st.bx ((s, .dvec e cols (rows ++ rows2)) :: DC [b, b2]) c = if c = s then some (.dvec e cols (rows ++ rows2)) else if c = b then some .gone else if c = b2 then some .gone else st.bx c := fun c => rfl
 have hrun : ∀ (v : Value) (w' : World), (Builtin.append_ #[t, t2] o.type #[a.eval x, a.eval y]).run P w = .ok v w' → (execOp a.eval o).run P w = .ok (.value v) w' := by
  intro v w' h
  simp only [execOp, hop]
  refine Fe fun cs => ?_
  simp only [List.map_toArray, List.map_cons, List.map_nil, builtin]
  exact Ag h rfl
 -- the source's cells
 have hsrc : ∃ news Rf2, (∀ w' : World, w'.heap = w.heap → (Builtin.firstCells e rows2.length (a.eval y)).run P w' = .ok news w') ∧ news.size = rows2.length * e ∧ FX w G.S e cols rows2 Rf2 (Ah news) ∧ (∀ i j γ, Rf2 i j γ → G.has b2 γ) := by
  rcases hy3 with ⟨h1, h2⟩ | ⟨β2, arr2, el2', Rf2, q1, q2, q3, q4, q5, q6, q7⟩
  ·subst h1
   obtain ⟨news, k1, k2, k3⟩ := CE (P := P) (w := w) (a := p2) (len := 0) (cap := cap2) (e := e) (S := G.S)
   refine ⟨news, fun _ _ _ => False, by rw [hy1]; exact k1, by simpa using k3, ⟨fun i row h => by simp at h, fun i row j t h => by simp at h, fun _ _ _ _ _ h => h.elim⟩, fun _ _ _ h => h.elim⟩
  ·subst q1
   have hle : 0 + rows2.length * e ≤ arr2.size := by rw [q4, Nat.zero_add]; exact Nat.mul_le_mul_right e hy2
   obtain ⟨news, k1, k2, k3⟩ := KO (P := P) (len := rows2.length) (cap := cap2) q3 hle
   refine ⟨news, Rf2, by rw [hy1]; exact k1, k2, ⟨q5.len, fun i row j t hi hj => ?_, q5.dis⟩, fun i j γ h => .inr (q6 i j γ h)⟩
   have hj' := Al hj
   have hre := q5.len i row hi
   have hlt := Al hi
   have hle2 : i * e + e ≤ rows2.length * e := by rw [← Nat.succ_mul]; exact Nat.mul_le_mul_right e hlt
   rw [k3 _ (by omega), Nat.zero_add]
   exact q5.cell i row j t hi hj
 obtain ⟨news, Rf2, hn1, hn2, hn3, hn4⟩ := hsrc
 have hlen2 : news.toList.length = rows2.length * e := by simp [hn2]
 -- the new state, wherever the rows lie now
 have fin : ∀ (l : Option Nat) (v : Value) (m : Nat → Prop) (w' : World), (∀ β, l = some β → X.w0.heap.size ≤ β ∧ β < w'.heap.size ∧ ¬ G.S β ∧ (G.loc b = some β ∨ w.heap.size ≤ β)) → (∃ q n c, v = .slice q n c) → (∀ γ, m γ → G.has b γ ∨ G.has b2 γ) →
   (∀ γ, γ < w.heap.size → l ≠ some γ → w'.heap[γ]? = w.heap[γ]?) → w.heap.size ≤ w'.heap.size → BC X.L X.w0.heap.size X.w0 w' →
   (∀ G' : Gh, G'.S = G.S → G'.loc s = l → G'.hd s = v → G'.more s = m → Ct P w' G' s (.dvec e cols (rows ++ rows2))) →
   ∃ G', BT P X G' ⟨st.env, AT st.bx ((s, .dvec e cols (rows ++ rows2)) :: DC [b, b2])⟩ a w' ∧ ∀ d', some (D.e (.one (.own s))) = some d' → DZ P w' G' v d' ∧ ∀ c, c ∈ d'.names → (AT st.bx ((s, .dvec e cols (rows ++ rows2)) :: DC [b, b2]) c).isSome = true := by
  intro l v m w' g1 gv gm g5 g6 g7 gblk
  let G' : Gh := { S := G.S, loc := fun c => if c = s then l else G.loc c, hd := fun c => if c = s then v else G.hd c, more := fun c => if c = s then m else G.more c }
  have hsome : ∀ c, (st.bx c).isSome = true → c ≠ s := fun c hc e => by rw [e, hnew] at hc; cases hc
  have hasS : ∀ γ, G'.has s γ → l = some γ ∨ G.has b γ ∨ G.has b2 γ := fun γ h => by
   unfold Gh.has at h
   simp only [G', if_true] at h
   rcases h with h | h
   ·exact .inl h
   ·exact .inr (gm γ h)
  have hasO : ∀ c γ, c ≠ s → (G'.has c γ ↔ G.has c γ) := fun c γ h => by unfold Gh.has; simp only [G', if_neg h]
  have old2 : ∀ c kk γ, st.bx c = some kk → kk.real = true → G.has c γ → l = some γ → c = b := fun c kk γ h1 h2 h3 h4 => by
   rcases (g1 γ h4).2.2.2 with g4 | g4
   ·exact hs.at_inj c b kk _ γ h1 hb h2 rfl h3 (.inl g4)
   ·have := (hs.at_ok c kk γ h1 h2 h3).2.1; omega
  refine ⟨G', hs.frame2 (fun c hc => ?_) (fun _ h => h) (fun c hc => by simp only [G', if_neg (hsome c hc)]) (fun c hc => by simp only [G', if_neg (hsome c hc)]) (fun γ hγ => g5 γ (hs.S_lt γ hγ) fun e' => (g1 γ e').2.2.1 hγ) ?_ ?_ ?_ (fun γ hγ => by have := hs.S_lt γ hγ; omega) hs.S_src g7 (fun c hc => ?_), ?_⟩
  ·rw [hbx]; split
   ·rfl
   ·split
    ·rfl
    ·split
     ·rfl
     ·exact hc
  ·intro c kk hc
   rw [hbx] at hc
   split at hc
   ·rename_i e1; subst e1; cases hc
    exact .inr ⟨gblk G' rfl (by simp [G']) (by simp [G']) (by simp [G']), fun c' hc' => by cases hc'⟩
   ·rename_i e1
    split at hc
    ·cases hc; exact .inr ⟨trivial, fun c' hc' => by cases hc'⟩
    ·rename_i e2
     split at hc
     ·cases hc; exact .inr ⟨trivial, fun c' hc' => by cases hc'⟩
     ·exact .inl ⟨hc, by simp only [G', if_neg e1], fun γ hr hγ => g5 γ (hs.at_ok c kk γ hc hr hγ).2.1 fun e' => e2 (old2 c kk γ hc hr hγ e')⟩
  ·intro c kk γ hc hr hγ
   rw [hbx] at hc
   split at hc
   ·rename_i e1; subst e1
    rcases hasS γ hγ with h | h | h
    ·exact ⟨.new (g1 γ h).1, (g1 γ h).2.1, (g1 γ h).2.2.1⟩
    ·have := hs.at_ok b _ γ hb rfl h
     exact ⟨.new (this.1.1 hbl), by omega, this.2.2⟩
    ·have := hs.at_ok b2 _ γ hb2 rfl h
     exact ⟨.new (this.1.1 hbl2), by omega, this.2.2⟩
   ·rename_i e1
    split at hc
    ·cases hc; cases hr
    ·split at hc
     ·cases hc; cases hr
     ·have := hs.at_ok c kk γ hc hr ((hasO c γ e1).1 hγ)
      exact ⟨this.1, by omega, this.2.2⟩
  ·intro c c' kk kk' γ hc hc' hr hr' hγ hγ'
   rw [hbx] at hc hc'
   have cl : ∀ c kk, (if c = s then some (AO.dvec e cols (rows ++ rows2)) else if c = b then some .gone else if c = b2 then some .gone else st.bx c) = some kk → kk.real = true → G'.has c γ → (c = s ∧ (l = some γ ∨ G.has b γ ∨ G.has b2 γ)) ∨ (c ≠ s ∧ c ≠ b ∧ c ≠ b2 ∧ st.bx c = some kk ∧ G.has c γ) := by
    intro c kk hc hr hγ
    split at hc
    ·rename_i e1; subst e1; exact .inl ⟨rfl, hasS γ hγ⟩
    ·rename_i e1
     split at hc
     ·cases hc; cases hr
     ·rename_i e2
      split at hc
      ·cases hc; cases hr
      ·rename_i e3; exact .inr ⟨e1, e2, e3, hc, (hasO c γ e1).1 hγ⟩
   have mix : ∀ c kk, c ≠ b → c ≠ b2 → st.bx c = some kk → kk.real = true → G.has c γ → (l = some γ ∨ G.has b γ ∨ G.has b2 γ) → False := by
    intro c kk q1 q2 q3 q4 q5 q6
    rcases q6 with h | h | h
    ·exact q1 (old2 c kk γ q3 q4 q5 h)
    ·exact q1 (hs.at_inj c b kk _ γ q3 hb q4 rfl q5 h)
    ·exact q2 (hs.at_inj c b2 kk _ γ q3 hb2 q4 rfl q5 h)
   rcases cl c kk hc hr hγ with ⟨q1, q2⟩ | ⟨q1, q2, q3, q4, q5⟩ <;> rcases cl c' kk' hc' hr' hγ' with ⟨q1', q2'⟩ | ⟨q1', q2', q3', q4', q5'⟩
   ·rw [q1, q1']
   ·exact (mix c' kk' q2' q3' q4' hr' q5' q2).elim
   ·exact (mix c kk q2 q3 q4 hr q5 q2').elim
   ·exact hs.at_inj c c' kk kk' γ q4 q4' hr hr' q5 q5'
  ·have e1 : c ≠ s := fun e' => by rw [e', hnl] at hc; cases hc
   refine ⟨?_, ?_, ?_⟩ <;> simp only [G', if_neg e1]
  ·rintro d' ⟨⟩
   refine ⟨⟨by simp [G'], gv⟩, fun c hc => ?_⟩
   have : c = s := by simpa [D.names, E.names, C.names] using hc
   subst this
   rw [hbx, if_pos rfl]; rfl
 -- rows that lie in a block
 have blk : ∀ (β cap' : Nat) (arr' : Array Value) (el' : TypeId) (Rf : Nat → Nat → Nat → Prop) (w' : World), w'.heap[β]? = some (.cells arr' el' (0, 0)) → rows.length + rows2.length ≤ cap' → arr'.size = cap' * e →
   FX w' G.S e cols (rows ++ rows2) (fun i j γ => if i < rows.length then Rf i j γ else Rf2 (i - rows.length) j γ) (Ah arr') → (∀ i j, ¬ Rf i j β) → ¬ G.has b2 β →
   ∀ G' : Gh, G'.S = G.S → G'.loc s = some β → G'.hd s = .slice (some ⟨β, 0, none⟩) (rows.length + rows2.length) cap' → G'.more s = (fun γ => (∃ i j, Rf i j γ) ∨ ∃ i j, Rf2 i j γ) → Ct P w' G' s (.dvec e cols (rows ++ rows2)) := by
  intro β cap' arr' el' Rf w' g8 g9 g10 g11 g12 g13 G' hS hl hh hm
  refine .inr ⟨β, cap', arr', el', _, hl, by rw [hh]; simp, g8, by simpa using g9, g10, g11.len, fun i row j t hi hj => by rw [hS]; exact g11.cell i row j t hi hj, ?_, ?_, g11.dis⟩
  ·intro i j γ hγ
   rw [hm]
   split at hγ
   ·exact .inl ⟨i, j, hγ⟩
   ·exact .inr ⟨_, j, hγ⟩
  ·intro i j hγ
   split at hγ
   ·exact g12 i j hγ
   ·exact g13 (hn4 _ j β hγ)
 have hcross : ∀ (Rf : Nat → Nat → Nat → Prop), (∀ i j γ, Rf i j γ → G.has b γ) → ∀ i j i' j' γ, Rf i j γ → Rf2 i' j' γ → False := fun Rf hRf i j i' j' γ h1 h2 => hne (hs.at_inj b b2 _ _ γ hb hb2 rfl rfl (hRf i j γ h1) (hn4 i' j' γ h2))
 have hS2 : ∀ γ, (∃ i j, Rf2 i j γ) → γ < w.heap.size := fun γ ⟨i, j, h⟩ => (hs.at_ok b2 _ γ hb2 rfl (hn4 i j γ h)).2.1
 have hnewhas : ∀ c kk, st.bx c = some kk → kk.real = true → ¬ G.has c w.heap.size := fun c kk h1 h2 h3 => Nat.lt_irrefl _ (hs.at_ok c kk _ h1 h2 h3).2.1
 -- a new block
 have fresh : ∀ (olds rest : Array Value) (c : Nat) (Rf : Nat → Nat → Nat → Prop), rows.length + rows2.length ≤ c → olds.size = rows.length * e → rest.size = (c - (rows.length + rows2.length)) * e → FX w G.S e cols rows Rf (Ah olds) → (∀ i j γ, Rf i j γ → G.has b γ) →
   (Builtin.append_ #[t, t2] o.type #[a.eval x, a.eval y]).run P w = .ok (.slice (some ⟨w.heap.size, 0, none⟩) (rows.length + rows2.length) c) (w.drew.alloc (.cells (olds ++ news ++ rest) el)) →
   ∃ v w' G', (execOp a.eval o).run P w = .ok (.value v) w' ∧ BT P X G' ⟨st.env, AT st.bx ((s, .dvec e cols (rows ++ rows2)) :: DC [b, b2])⟩ a w' ∧ ∀ d, some (D.e (.one (.own s))) = some d → DZ P w' G' v d ∧ ∀ b_1, b_1 ∈ d.names → (AT st.bx ((s, .dvec e cols (rows ++ rows2)) :: DC [b, b2]) b_1).isSome = true := by
  intro olds rest c Rf hc1 ho hrest hD hRf hrun1
  have hsz : (w.drew.alloc (.cells (olds ++ news ++ rest) el)).heap.size = w.heap.size + 1 := by show (w.heap.push _).size = _; simp
  have hheap : ∀ γ, γ < w.heap.size → (w.drew.alloc (.cells (olds ++ news ++ rest) el)).heap[γ]? = w.heap[γ]? := fun γ hγ => by rw [BV, if_neg (by rw [Dy]; omega)]; rfl
  have hat : (w.drew.alloc (.cells (olds ++ news ++ rest) el)).heap[w.heap.size]? = some (.cells (olds ++ news ++ rest) el) := by rw [BV, Dy, if_pos rfl]
  have hap : FX (w.drew.alloc (.cells (olds ++ news ++ rest) el)) G.S e cols (rows ++ rows2) (fun i j γ => if i < rows.length then Rf i j γ else Rf2 (i - rows.length) j γ) (Ah (olds ++ news ++ rest)) := by
   refine hD.app hn3 (hcross Rf hRf) (fun j hj => ?_) (fun j hj => ?_) (fun γ hγ => hheap γ ?_)
   ·rw [Bc (by simp [ho]; omega), Bc (by omega)]
   ·rw [Bc (by simp [ho, hn2]; omega), DF (by omega), ho, Nat.add_sub_cancel_left]
   ·rcases hγ with h | ⟨i, j, h | h⟩
    ·exact hs.S_lt γ h
    ·exact (hs.at_ok b _ γ hb rfl (hRf i j γ h)).2.1
    ·exact (hs.at_ok b2 _ γ hb2 rfl (hn4 i j γ h)).2.1
  obtain ⟨G', k1, k2⟩ := fin (some w.heap.size) (.slice (some ⟨w.heap.size, 0, none⟩) (rows.length + rows2.length) c) (fun γ => (∃ i j, Rf i j γ) ∨ ∃ i j, Rf2 i j γ) _
   (fun β hβ => by cases hβ; exact ⟨hs.below.size, by omega, fun h => Nat.lt_irrefl _ (hs.S_lt _ h), .inr (Nat.le_refl _)⟩) ⟨_, _, _, rfl⟩ (fun γ hγ => hγ.imp (fun ⟨i, j, h⟩ => hRf i j γ h) (fun ⟨i, j, h⟩ => hn4 i j γ h)) (fun γ h1 _ => hheap γ h1) (by omega)
   ((hs.below.drew).alloc (by rw [Dy]; exact hs.below.size) _)
   (blk w.heap.size c _ el Rf _ hat hc1 (by simp only [Array.size_append, ho, hn2, hrest]; rw [← Nat.add_mul, ← Nat.add_mul]; congr 1; omega) hap (fun i j h => hnewhas b _ hb rfl (hRf i j _ h)) (fun h => hnewhas b2 _ hb2 rfl h))
  exact ⟨_, _, G', hrun _ _ hrun1, k1, k2⟩
 rcases hx3 with ⟨h1, h2⟩ | ⟨β, arr, el', Rf, q1, q2, q3, q4, q5, q6, q7⟩
 · -- nothing was there
  obtain ⟨olds, k1, k2, k3⟩ := CE (P := P) (w := w) (a := p) (len := 0) (cap := 0) (e := e) (S := G.S)
  have hr0 : rows.length = 0 := by rw [h1]; rfl
  have hold : ∀ w' : World, w'.heap = w.heap → (Builtin.firstCells e rows.length (.slice p rows.length cap)).run P w' = .ok olds w' := by rw [hr0, h2]; exact k1
  rcases zFS (ty := o.type) (a := p) (n := rows.length) (cap := cap) ht ht2 he hby hbs hz hzs hy1 hold hn1 hlim hx2 with ⟨hfit, hrun1⟩ | ⟨hfit, c, rest, hc1, hrun1, hrest⟩
  ·have hr2 : rows2 = [] := List.eq_nil_of_length_eq_zero (by omega)
   have hn0 : news.toList = [] := List.eq_nil_of_length_eq_zero (by rw [hlen2, hr2]; simp)
   have hrun2 := hrun1 w (fun q _ => by rw [hn0]; rfl) (fun _ => rfl)
   rw [← hx1] at hrun2
   obtain ⟨G', g1, g2⟩ := fin none (.slice p (rows.length + rows2.length) cap) (fun _ => False) w (fun β h => by cases h) ⟨_, _, _, rfl⟩ (fun _ h => h.elim) (fun _ _ _ => rfl) (Nat.le_refl _) hs.below
    (fun G' hS hl hh hm => .inl ⟨p, by rw [hh, hr0, hr2, h2]; rfl, by rw [h1, hr2]; rfl, hl⟩)
   exact ⟨_, w, G', hrun _ _ hrun2, g1, g2⟩
  ·rw [← hx1] at hrun1
   exact fresh olds rest c (fun _ _ _ => False) hc1 (by rw [hr0]; simpa using k3) hrest ⟨fun i row h => by rw [h1] at h; simp at h, fun i row j t h => by rw [h1] at h; simp at h, fun _ _ _ _ _ h => h.elim⟩ (fun _ _ _ h => h.elim) hrun1
 ·subst q1
  have hle : 0 + rows.length * e ≤ arr.size := by rw [q4, Nat.zero_add]; exact Nat.mul_le_mul_right e hx2
  obtain ⟨olds, k1, k2, k3⟩ := KO (P := P) (len := rows.length) (cap := cap) q3 hle
  have hatb := hs.at_ok b _ β hb rfl (.inl q2)
  rcases zFS (ty := o.type) (a := some ⟨β, 0, none⟩) (n := rows.length) (cap := cap) ht ht2 he hby hbs hz hzs hy1 k1 hn1 hlim hx2 with ⟨hfit, hrun1⟩ | ⟨hfit, c, rest, hc1, hrun1, hrest⟩
  ·have hbnd : rows.length * e + rows2.length * e ≤ arr.size := by rw [q4, ← Nat.add_mul]; exact Nat.mul_le_mul_right e hfit
   have hst := D4 (P := P) (β := β) (el := el') news.toList w (rows.length * e) 0 arr q3 (by rw [hlen2]; omega) (hn3.ones hn2)
   rw [Nat.add_zero] at hst
   have hrun2 := hrun1 _ (fun p hp => by cases hp; rw [Addr.add_mk, Nat.zero_add]; exact hst) (fun h => by cases h)
   rw [← hx1] at hrun2
   have hheap : ∀ γ, γ ≠ β → (Ed w β (.cells (Dd arr (rows.length * e) news.toList) el' (0, 0))).heap[γ]? = w.heap[γ]? := fun γ hγ => by rw [CW, if_neg (fun h => hγ h.1)]
   have hszw : (Ed w β (.cells (Dd arr (rows.length * e) news.toList) el' (0, 0))).heap.size = w.heap.size := by simp [Ed]
   have hov : ∀ j, Ah (Dd arr (rows.length * e) news.toList) j = if rows.length * e ≤ j ∧ j < rows.length * e + rows2.length * e then Ah news (j - rows.length * e) else Ah arr j := fun j => by
    rw [CZ _ _ _ _ (by rw [hlen2]; exact hbnd), hlen2, CK]
   have hb2β : ¬ G.has b2 β := fun h => hne (hs.at_inj b b2 _ _ β hb hb2 rfl rfl (.inl q2) h)
   have hap : FX (Ed w β (.cells (Dd arr (rows.length * e) news.toList) el' (0, 0))) G.S e cols (rows ++ rows2) (fun i j γ => if i < rows.length then Rf i j γ else Rf2 (i - rows.length) j γ) (Ah (Dd arr (rows.length * e) news.toList)) := by
    refine q5.app hn3 (hcross Rf (fun i j γ h => .inr (q6 i j γ h))) (fun j hj => by rw [hov, if_neg (by omega)]) (fun j hj => by rw [hov, if_pos (by omega), Nat.add_sub_cancel_left]) (fun γ hγ => hheap γ ?_)
    rcases hγ with h | ⟨i, j, h | h⟩
    ·exact fun e' => hatb.2.2 (e' ▸ h)
    ·exact fun e' => q7 i j (e' ▸ h)
    ·exact fun e' => hb2β (e' ▸ hn4 i j γ h)
   obtain ⟨G', g1, g2⟩ := fin (some β) (.slice (some ⟨β, 0, none⟩) (rows.length + rows2.length) cap) (fun γ => (∃ i j, Rf i j γ) ∨ ∃ i j, Rf2 i j γ) _
    (fun γ hγ => by cases hγ; exact ⟨hatb.1.1 hbl, by omega, hatb.2.2, .inl q2⟩) ⟨_, _, _, rfl⟩ (fun γ hγ => hγ.imp (fun ⟨i, j, h⟩ => .inr (q6 i j γ h)) (fun ⟨i, j, h⟩ => hn4 i j γ h)) (fun γ _ h2 => hheap γ fun e' => h2 (by rw [e'])) (by omega)
    (GT hs.below hatb.1.2 _)
    (blk β cap _ el' Rf _ (by rw [CW, if_pos ⟨rfl, hatb.2.1⟩]) hfit (by rw [DW, q4]) hap q7 hb2β)
   exact ⟨_, _, G', hrun _ _ hrun2, g1, g2⟩
  ·rw [← hx1] at hrun1
   refine fresh olds rest c Rf hc1 k2 hrest ⟨q5.len, fun i row j t hi hj => ?_, q5.dis⟩ (fun i j γ h => .inr (q6 i j γ h)) hrun1
   have hj' := Al hj
   have hre := q5.len i row hi
   have hlt := Al hi
   have hle2 : i * e + e ≤ rows.length * e := by rw [← Nat.succ_mul]; exact Nat.mul_le_mul_right e hlt
   rw [k3 _ (by omega), Nat.zero_add]
   exact q5.cell i row j t hi hj
end run
end Go.Lift
namespace Go.Lift
open Go.RowKit
variable {P : Program} {X : EM} {ops : Array Oper}
section run
variable {dr : Bool} {Q : St → Prop} {r i : Nat} {st : St} {log : List (Nat × Bz)} {o : Oper} {gs : List (Operand × D)}
end run
def LO (f : Nat → Nat) (env : Nat → Option D) : List (Nat × D) → Prop
 | [] => True
 | (s, d) :: ps => env s = some (d.ren f) ∧ LO f env ps
def LN (f : Nat → Nat) (bx : Nat → Option AO) : List (Nat × AO) → Prop
 | [] => True
 | (b, k) :: ps => bx (f b) = some (k.ren f) ∧ LN f bx ps
def CO : List (Nat × AO) → List Nat
 | [] => []
 | (b, _) :: ps => b :: CO ps
def Hz (f : Nat → Nat) : List Nat → Bool
 | [] => true
 | b :: bs => (if AR b then f b == b else !AR (f b)) && Hz f bs
def PR (b : Nat) : List Nat → Bool
 | [] => false
 | c :: cs => c == b || PR b cs
def Jp (ns : List Nat) : List (Nat × D) → Bool
 | [] => true
 | (_, d) :: ps => (d.names.all fun b => PR b ns) && Jp ns ps
def Jz (ns : List Nat) : List (Nat × AO) → Bool
 | [] => true
 | (_, d) :: ps => (d.names.all fun b => PR b ns) && Jz ns ps
theorem KE {f : Nat → Nat} {env : Nat → Option D} : ∀ {el : List (Nat × D)}, LO f env el → NE f env el
 | [], _ => trivial
 | (_, _) :: _, h => ⟨h.1, KE h.2⟩
theorem Kv {f : Nat → Nat} {bx : Nat → Option AO} : ∀ {bl : List (Nat × AO)}, LN f bx bl → NS f bx bl
 | [], _ => trivial
 | (_, _) :: _, h => ⟨h.1, Kv h.2⟩
theorem JI : ∀ bl : List (Nat × AO), CO bl = bl.map (·.1)
 | [] => rfl
 | (b, k) :: ps => by simp [CO, JI ps]
theorem Jn {f : Nat → Nat} : ∀ bl : List (Nat × AO), Hz f (CO bl) = bl.all fun p => if AR p.1 then f p.1 == p.1 else !AR (f p.1)
 | [] => rfl
 | (b, k) :: ps => by simp only [CO, Hz, List.all_cons, Jn ps]
theorem KW {b : Nat} : ∀ bl : List (Nat × AO), PR b (CO bl) = bl.any fun q => q.1 == b
 | [] => rfl
 | (c, k) :: ps => by simp only [CO, PR, List.any_cons, KW ps]
theorem KR (bl : List (Nat × AO)) : ∀ el : List (Nat × D), Jp (CO bl) el = el.all fun p => p.2.names.all fun b => bl.any fun q => q.1 == b
 | [] => rfl
 | (s, d) :: ps => by simp only [Jp, List.all_cons, KR bl ps, KW]
theorem Ki (bl : List (Nat × AO)) : ∀ el : List (Nat × AO), Jz (CO bl) el = el.all fun p => p.2.names.all fun b => bl.any fun q => q.1 == b
 | [] => rfl
 | (s, d) :: ps => by simp only [Jz, List.all_cons, Ki bl ps, KW]
theorem MB {st : St} (f : Nat → Nat) (el : List (Nat × D)) (bl : List (Nat × AO)) (he : LO f st.env el) (hb : LN f st.bx bl) (hi : (Ex ((CO bl).map f) && Hz f (CO bl)) = true) (hs : (Jp (CO bl) el && Jz (CO bl) bl) = true) : DY P X st (mk el bl) := by
 refine NI f el bl (KE he) (Kv hb) ?_ ?_
 ·rw [Jn, JI] at hi; exact hi
 ·rw [KR, Ki] at hs; exact hs
theorem Hm {α : Type} (f : α → List T) (xs : List α) (e : Nat) (cols : List Ow) : vl (.dvec e cols (xs.map f)) = some (e, xs.length) := by simp [vl]
theorem J7 {α : Type} (f : α → List T) (xs : List α) (e i k c : Nat) (cols : List Ow) : vl (.hol e cols i k c (xs.map f)) = some (e, xs.length) := by simp [vl]
end Go.Lift
namespace Go.Lift
open Go.RowKit
variable {P : Program} {X : EM} {ops : Array Oper}
def hd (env : Nat → Option D) (ops : Array Oper) (i n : Nat) : Option (Op × Nat × List (Operand × D)) := match QX ops i n with
 | some (op, s) => some (op, s, [])
 | none => match QA ops i n with
  | some (op, s, t, want) => (match env t, want with
   | some (.e (.one (.pure (.val (.bool true))))), true => some (op, s, [(.tmp t, bD true)])
   | some (.e (.one (.pure (.val (.bool false))))), false => some (op, s, [(.tmp t, bD false)])
   | _, _ => none)
  | none => none
theorem BQ {env : Nat → Option D} {n i s : Nat} {op : Op} {gs : List (Operand × D)} (h : hd env ops i n = some (op, s, gs)) : At env ops i n op s gs := by
 unfold hd at h
 split at h
 ·rename_i e; cases h; exact .p e
 ·split at h
  ·rename_i e
   split at h
   ·rename_i e2; cases h; exact .g e e2
   ·rename_i e2; cases h; exact .g e e2
   ·cases h
  ·cases h
theorem t2 {α β : Type} {a c : α} {b d : β} (h : (a, b) = (c, d)) : a = c ∧ b = d := Prod.mk.inj h
abbrev Nx (P : Program) (X : EM) (ops : Array Oper) (dr : Bool) (Q : St → Prop) (r i : Nat) (st : St) (log : List (Nat × Bz)) (l : Bz) : Prop := AV P X ops dr Q r (i + 1) (Bz.upd l st) ((i, l) :: log)
theorem sj {α : Type} {a b : α} (h : some a = some b) : a = b := Option.some.inj h
def M3 (env : Nat → Option D) : List Operand → Option (List D)
 | [] => some []
 | x :: xs => match opd env x, M3 env xs with
  | some d, some ds => some (d :: ds)
  | _, _ => none
theorem Kc {env : Nat → Option D} : ∀ {xs : List Operand} {ds : List D}, M3 env xs = some ds → xs.length = ds.length ∧ Eu env (Fs xs ds)
 | [], ds, h => by cases h; exact ⟨rfl, trivial⟩
 | x :: xs, ds, h => by
  simp only [M3] at h
  split at h
  ·rename_i e1 e2
   cases h
   have := Kc e2
   exact ⟨by simp [this.1], e1, this.2⟩
  ·cases h
def Qn (bx : Nat → Option AO) : List Nat → Option (List (Nat × AO))
 | [] => some []
 | b :: bs => match bx b, Qn bx bs with
  | some k, some ks => some ((b, k) :: ks)
  | _, _ => none
theorem MO {bx : Nat → Option AO} : ∀ {l : List Nat} {bs : List (Nat × AO)}, Qn bx l = some bs → EH bx bs
 | [], bs, h => by cases h; trivial
 | b :: l, bs, h => by
  simp only [Qn] at h
  split at h
  ·rename_i e1 e2
   cases h
   exact ⟨e1, MO e2⟩
  ·cases h
def PD (env : Nat → Option D) : List (Nat × Operand) → Option (List (Nat × Operand × E))
 | [] => some []
 | p :: ps => match opd env p.2, PD env ps with
  | some (.e y), some qs => some ((p.1, p.2, y) :: qs)
  | _, _ => none
theorem LH {env : Nat → Option D} : ∀ {l : List (Nat × Operand)} {ps : List (Nat × Operand × E)}, PD env l = some ps → l = (ps.map fun p => (p.1, p.2.1)) ∧ Eu env (EY ps)
 | [], ps, h => by cases h; exact ⟨rfl, trivial⟩
 | p :: l, ps, h => by
  simp only [PD] at h
  split at h
  ·rename_i e1 e2
   cases h
   have := LH e2
   exact ⟨by rw [List.map_cons, ← this.1], e1, this.2⟩
  ·cases h
theorem Nf {env : Nat → Option D} {parts : Array (Nat × Operand)} {ps : List (Nat × Operand × E)} (h : PD env parts.toList = some ps) : parts = (ps.map fun p => (p.1, p.2.1)).toArray ∧ Eu env (EY ps) := by
 have := LH h
 exact ⟨by rw [← this.1], this.2⟩
def Ok (k : Nat) : List (Nat × Operand × E) → Bool
 | [] => true
 | p :: ps => Nat.beq p.1 k && Ok (k + 1) ps
theorem LK : ∀ {k : Nat} {ps : List (Nat × Operand × E)}, Ok k ps = true → ps.map (·.1) = List.range' k ps.length
 | _, [], _ => rfl
 | k, p :: ps, h => by
  simp only [Ok, Bool.and_eq_true] at h
  rw [List.map_cons, List.length_cons, List.range'_succ, LK h.2, Nat.eq_of_beq_eq_true h.1]
def QF : Option AO → Bool
 | none => true
 | some _ => false
theorem JT {bx : Nat → Option AO} : ∀ {ns : List Nat}, (ns.all fun n => QF (bx n)) = true → IZ bx ns
 | [], _ => trivial
 | n :: ns, h => by
  simp only [List.all_cons, Bool.and_eq_true] at h
  refine ⟨?_, JT h.2⟩
  have := h.1
  cases hb : bx n with
  | none => rfl
  | some k => rw [hb] at this; cases this
theorem Jr {ns : List Nat} (h : (Ex ns && (ns.all fun n => !AR n)) = true) : IA ns := by
 rw [Bool.and_eq_true] at h
 exact ⟨Ev h.1, fun c hc => by simpa using List.all_eq_true.1 h.2 c hc⟩
def Qd (env : Nat → Option D) : List (Nat × D) → List (Option D)
 | [] => []
 | (s, _) :: ps => env s :: Qd env ps
def Qg (f : Nat → Nat) : List (Nat × D) → List (Option D)
 | [] => []
 | (_, d) :: ps => some (d.ren f) :: Qg f ps
def Qk (f : Nat → Nat) (bx : Nat → Option AO) : List (Nat × AO) → List (Option AO)
 | [] => []
 | (b, _) :: ps => bx (f b) :: Qk f bx ps
def Qa (f : Nat → Nat) : List (Nat × AO) → List (Option AO)
 | [] => []
 | (_, k) :: ps => some (k.ren f) :: Qa f ps
theorem MH {f : Nat → Nat} {env : Nat → Option D} : ∀ {el : List (Nat × D)}, Qd env el = Qg f el → LO f env el
 | [], _ => trivial
 | (s, d) :: el, h => by
  simp only [Qd, Qg] at h
  obtain ⟨h1, h2⟩ := List.cons.inj h
  exact ⟨h1, MH h2⟩
theorem My {f : Nat → Nat} {bx : Nat → Option AO} : ∀ {el : List (Nat × AO)}, Qk f bx el = Qa f el → LN f bx el
 | [], _ => trivial
 | (s, d) :: el, h => by
  simp only [Qk, Qa] at h
  obtain ⟨h1, h2⟩ := List.cons.inj h
  exact ⟨h1, My h2⟩
theorem sm {st : St} (l : List (Nat × Nat)) (el : List (Nat × D)) (bl : List (Nat × AO)) (h : (Qd st.env el, Qk (rn l) st.bx bl) = (Qg (rn l) el, Qa (rn l) bl)) (hi : ((Ex ((CO bl).map (rn l)) && Hz (rn l) (CO bl)) && (Jp (CO bl) el && Jz (CO bl) bl)) = true) : DY P X st (mk el bl) :=
 MB (rn l) el bl (MH (t2 h).1) (My (t2 h).2) (Bool.and_eq_true_iff.1 hi).1 (Bool.and_eq_true_iff.1 hi).2
section run
variable {dr : Bool} {Q : St → Prop} {r i : Nat} {st : St} {log : List (Nat × Bz)} {gs : List (Operand × D)}
theorem qm {x : Operand} {d : D} {s : Nat} (h : (hd st.env ops i X.n, opd st.env x) = (some (.move x, s, gs), some d)) (next : Nx P X ops dr Q r i st log ⟨gs ++ [(x, d)], [], some s, some d, [], []⟩) : AV P X ops dr Q (r + 1) i st log :=
 O5 (BQ (t2 h).1) (t2 h).2 next
theorem qa {x : Operand} {d : D} {s : Nat} (h : (hd st.env ops i X.n, opd st.env x) = (some (.assign x, s, gs), some d)) (next : Nx P X ops dr Q r i st log ⟨gs ++ [(x, d)], [], some s, some d, [], []⟩) : AV P X ops dr Q (r + 1) i st log :=
 Na (BQ (t2 h).1) (t2 h).2 next
theorem qn {j t s : Nat} {want : Bool} (h : (OX ops i X.n, st.env t) = (some (j, s, t, want), some (bD (!want)))) (next : Nx P X ops dr Q r i st log ⟨[(.tmp t, bD (!want))], [], some s, some uD, [], []⟩) : AV P X ops dr Q (r + 1) i st log :=
 Pq (t2 h).1 (t2 h).2 next
theorem qu {j t s : Nat} {want : Bool} (h : (OX ops i X.n, st.env t) = (some (j, s, t, want), some uD)) (next : Nx P X ops dr Q r i st log ⟨[(.tmp t, uD)], [], some s, some uD, [], []⟩) : AV P X ops dr Q (r + 1) i st log :=
 OW (t2 h).1 (t2 h).2 next
theorem qp {c x y : Operand} {b : Bool} {d : D} {z : Operand} {s : Nat} (h : (hd st.env ops i X.n, opd st.env c, (if b then x else y), opd st.env z) = (some (.pick c x y, s, gs), some (bD b), z, some d)) (next : Nx P X ops dr Q r i st log ⟨gs ++ [(c, bD b), (z, d)], [], some s, some d, [], []⟩) : AV P X ops dr Q (r + 1) i st log :=
 Pv (BQ (t2 h).1) (t2 (t2 h).2).1 (t2 (t2 (t2 h).2).2).1 (t2 (t2 (t2 h).2).2).2 next
theorem qf {x : Operand} {b k f off s : Nat} {t : TypeId} (hf : By P t f off = true) (h : (hd st.env ops i X.n, opd st.env x) = (some (.fieldAddr t x f, s, gs), some (.e (.one (.ptr b k))))) (next : Nx P X ops dr Q r i st log ⟨gs ++ [(x, .e (.one (.ptr b k)))], [], some s, some (.e (.one (.ptr b (k + off)))), [], []⟩) : AV P X ops dr Q (r + 1) i st log :=
 KF (BQ (t2 h).1) (t2 h).2 hf next
theorem qg {x : Operand} {ts us : List T} {f off s : Nat} {t : TypeId} (hf : By P t f off = true) (h : (hd st.env ops i X.n, opd st.env x, Nat.ble (off) (ts.length), ts.drop off) = (some (.fieldAddr t x f, s, gs), some (.e (.one (.rop ts))), true, us)) (next : Nx P X ops dr Q r i st log ⟨gs ++ [(x, .e (.one (.rop ts)))], [], some s, some (.e (.one (.rop us))), [], []⟩) : AV P X ops dr Q (r + 1) i st log :=
 JY (BQ (t2 h).1) (t2 (t2 h).2).1 hf (Nat.le_of_ble_eq_true (t2 (t2 (t2 h).2).2).1) (t2 (t2 (t2 h).2).2).2 next
theorem qh {x : Operand} {b e ix k f off s : Nat} {t : TypeId} (hf : By P t f off = true) (h : (hd st.env ops i X.n, opd st.env x) = (some (.fieldAddr t x f, s, gs), some (.e (.one (.eptr b e ix k))))) (next : Nx P X ops dr Q r i st log ⟨gs ++ [(x, .e (.one (.eptr b e ix k)))], [], some s, some (.e (.one (.eptr b e ix (k + off)))), [], []⟩) : AV P X ops dr Q (r + 1) i st log :=
 JS (BQ (t2 h).1) (t2 h).2 hf next
theorem ql {x : Operand} {b k s : Nat} {cells : List C} {c : C} {t : TypeId} (ht : CH P t false = true) (h : (hd st.env ops i X.n, opd st.env x, st.bx b, cells[k]?) = (some (.load t x, s, gs), some (.e (.one (.ptr b k))), some (.box cells), some c)) (next : Nx P X ops dr Q r i st log ⟨gs ++ [(x, .e (.one (.ptr b k)))], [(b, .box cells)], some s, some (.e (.one c)), [], []⟩) : AV P X ops dr Q (r + 1) i st log :=
 NW (BQ (t2 h).1) (t2 (t2 h).2).1 ht (t2 (t2 (t2 h).2).2).1 (t2 (t2 (t2 h).2).2).2 next
theorem qL {x : Operand} {b k n s : Nat} {cells cs : List C} {t : TypeId} (ht : CH P t true = true) (hz : E6 P t n = true) (h : (hd st.env ops i X.n, opd st.env x, st.bx b, (cells.drop k).take n, cs.length) = (some (.load t x, s, gs), some (.e (.one (.ptr b k))), some (.box cells), cs, n)) (next : Nx P X ops dr Q r i st log ⟨gs ++ [(x, .e (.one (.ptr b k)))], [(b, .box cells)], some s, some (.e (.agg cs)), [], []⟩) : AV P X ops dr Q (r + 1) i st log :=
 Oc (BQ (t2 h).1) (t2 (t2 h).2).1 ht hz (t2 (t2 (t2 h).2).2).1 (t2 (t2 (t2 (t2 h).2).2).2).1 (t2 (t2 (t2 (t2 h).2).2).2).2 next
theorem qk {x : Operand} {s : Nat} {ts : List T} {u : T} {t : TypeId} (ht : CH P t false = true) (h : (hd st.env ops i X.n, opd st.env x, ts[0]?) = (some (.load t x, s, gs), some (.e (.one (.rop ts))), some u)) (next : Nx P X ops dr Q r i st log ⟨gs ++ [(x, .e (.one (.rop ts)))], [], some s, some (one u), [], []⟩) : AV P X ops dr Q (r + 1) i st log :=
 MQ (BQ (t2 h).1) (t2 (t2 h).2).1 ht (t2 (t2 h).2).2 next
theorem qK {x : Operand} {s n : Nat} {ts us : List T} {t : TypeId} (ht : CH P t true = true) (hz : E6 P t n = true) (h : (hd st.env ops i X.n, opd st.env x, ts.take n, us.length) = (some (.load t x, s, gs), some (.e (.one (.rop ts))), us, n)) (next : Nx P X ops dr Q r i st log ⟨gs ++ [(x, .e (.one (.rop ts)))], [], some s, some (.e (.agg (us.map C.pure))), [], []⟩) : AV P X ops dr Q (r + 1) i st log :=
 Nl (BQ (t2 h).1) (t2 (t2 h).2).1 ht hz (t2 (t2 (t2 h).2).2).1 (t2 (t2 (t2 h).2).2).2 next
theorem qx {x : Operand} {xs : List E} {y : E} {k s : Nat} (h : (hd st.env ops i X.n, opd st.env x, xs[k]?) = (some (.extract x k, s, gs), some (.tup xs), some y)) (next : Nx P X ops dr Q r i st log ⟨gs ++ [(x, .tup xs)], [], some s, some (.e y), [], []⟩) : AV P X ops dr Q (r + 1) i st log :=
 L3 (BQ (t2 h).1) (t2 (t2 h).2).1 (t2 (t2 h).2).2 next
theorem qb {x : Operand} {y : E} {s : Nat} {el : TypeId} (h : (hd st.env ops i X.n, opd st.env x, st.bx s) = (some (.box el x, s, gs), some (.e y), none)) (next : Nx P X ops dr Q r i st log ⟨gs ++ [(x, .e y)], [], some s, some (.e (.one (.ptr s 0))), [(s, .box y.cells)], [s]⟩) : AV P X ops dr Q (r + 1) i st log :=
 P9 (BQ (t2 h).1) (t2 (t2 h).2).1 (t2 (t2 h).2).2 next
theorem qz {z : Value} {zs : List Value} {s : Nat} {el : TypeId} (hz : C0 P el = some z) (h : (hd st.env ops i X.n, z.cells.toList, zs.all EJ, st.bx s) = (some (.alloc el, s, gs), zs, true, none)) (next : Nx P X ops dr Q r i st log ⟨gs ++ [], [], some s, some (.e (.one (.ptr s 0))), [(s, .box (zs.map fun v => C.pure (T.of v)))], [s]⟩) : AV P X ops dr Q (r + 1) i st log :=
 Om (BQ (t2 h).1) hz (t2 (t2 h).2).1 (t2 (t2 (t2 h).2).2).1 (t2 (t2 (t2 h).2).2).2 next
theorem qs {x y : Operand} {b k n : Nat} {cells cells' : List C} {v : E} {t : TypeId} (hz : E6 P t n = true) (h : (Nb ops i, opd st.env x, opd st.env y, st.bx b, v.cells.length, Nat.ble (k + n) (cells.length), Fv cells k v.cells) = (some (.store t x y), some (.e (.one (.ptr b k))), some (.e v), some (.box cells), n, true, cells')) (next : Nx P X ops dr Q r i st log ⟨[(x, .e (.one (.ptr b k))), (y, .e v)], [(b, .box cells)], none, none, [(b, .box cells')], []⟩) : AV P X ops dr Q (r + 1) i st log :=
 Oa (t2 h).1 (t2 (t2 h).2).1 (t2 (t2 (t2 h).2).2).1 (t2 (t2 (t2 (t2 h).2).2).2).1 hz (t2 (t2 (t2 (t2 (t2 h).2).2).2).2).1 (Nat.le_of_ble_eq_true (t2 (t2 (t2 (t2 (t2 (t2 h).2).2).2).2).2).1) (t2 (t2 (t2 (t2 (t2 (t2 h).2).2).2).2).2).2 next
theorem qi {x y : Operand} {s e : Nat} {rows : List (List T)} {row : List T} {t el : TypeId} {k : IntKind} {n : Int} (ht : Bb P t el = true) (hz : E6 P el e = true) (h0 : 0 ≤ n) (hrow : rows[n.toNat]? = some row) (h : (hd st.env ops i X.n, opd st.env x, opd st.env y, row.length) = (some (.indexAddr t x y, s, gs), some (one (.sl rows)), some (vD (.int k n)), e)) (next : Nx P X ops dr Q r i st log ⟨gs ++ [(x, one (.sl rows)), (y, vD (.int k n))], [], some s, some (.e (.one (.rop row))), [], []⟩) : AV P X ops dr Q (r + 1) i st log :=
 Oj (BQ (t2 h).1) (t2 (t2 h).2).1 (t2 (t2 (t2 h).2).2).1 ht hz h0 hrow (t2 (t2 (t2 h).2).2).2 next
theorem qI {x y : Operand} {s e b : Nat} {rows : List (List T)} {row : List T} {t el : TypeId} {k : IntKind} {n : Int} (ht : Bb P t el = true) (hz : E6 P el e = true) (h0 : 0 ≤ n) (hrow : rows[n.toNat]? = some row) (h : (hd st.env ops i X.n, opd st.env x, opd st.env y, st.bx b) = (some (.indexAddr t x y, s, gs), some (.e (.one (.own b))), some (vD (.int k n)), some (.vec e rows))) (next : Nx P X ops dr Q r i st log ⟨gs ++ [(x, .e (.one (.own b))), (y, vD (.int k n))], [(b, .vec e rows)], some s, some (.e (.one (.eptr b e n.toNat 0))), [], []⟩) : AV P X ops dr Q (r + 1) i st log :=
 Mv (BQ (t2 h).1) (t2 (t2 h).2).1 (t2 (t2 (t2 h).2).2).1 (t2 (t2 (t2 h).2).2).2 ht hz h0 hrow next
theorem qj {x : Operand} {b e ix k s : Nat} {rows : List (List T)} {row : List T} {u : T} {t : TypeId} (ht : CH P t false = true) (hrow : rows[ix]? = some row) (h : (hd st.env ops i X.n, opd st.env x, st.bx b, row[k]?) = (some (.load t x, s, gs), some (.e (.one (.eptr b e ix k))), some (.vec e rows), some u)) (next : Nx P X ops dr Q r i st log ⟨gs ++ [(x, .e (.one (.eptr b e ix k)))], [(b, .vec e rows)], some s, some (one u), [], []⟩) : AV P X ops dr Q (r + 1) i st log :=
 MN (BQ (t2 h).1) (t2 (t2 h).2).1 ht (t2 (t2 (t2 h).2).2).1 hrow (t2 (t2 (t2 h).2).2).2 next
theorem qJ {x : Operand} {b e ix s : Nat} {rows : List (List T)} {row : List T} {t : TypeId} (ht : CH P t true = true) (hz : E6 P t e = true) (hrow : rows[ix]? = some row) (h : (hd st.env ops i X.n, opd st.env x, st.bx b) = (some (.load t x, s, gs), some (.e (.one (.eptr b e ix 0))), some (.vec e rows))) (next : Nx P X ops dr Q r i st log ⟨gs ++ [(x, .e (.one (.eptr b e ix 0)))], [(b, .vec e rows)], some s, some (.e (.agg (row.map C.pure))), [], []⟩) : AV P X ops dr Q (r + 1) i st log :=
 Nd (BQ (t2 h).1) (t2 (t2 h).2).1 ht hz (t2 (t2 h).2).2 hrow next
theorem B5 {k : IntKind} {xt yt : TypeId} {x y : Operand} {a b : Int} {s : Nat} (h : (hd st.env ops i X.n, opd st.env x, opd st.env y) = (some (.binOp .add xt x y yt, s, gs), some (vD (.int k a)), some (vD (.int k b)))) (next : Nx P X ops dr Q r i st log ⟨gs ++ [(x, vD (.int k a)), (y, vD (.int k b))], [], some s, some (vD (.int k (k.wrap (a + b)))), [], []⟩) : AV P X ops dr Q (r + 1) i st log :=
 E9 (BQ (t2 h).1) (t2 (t2 h).2).1 (t2 (t2 h).2).2 (NM _ _ _ _ _ _) rfl next
theorem OC {k : IntKind} {xt yt : TypeId} {x y : Operand} {a b : Int} {s : Nat} (h : (hd st.env ops i X.n, opd st.env x, opd st.env y) = (some (.binOp .sub xt x y yt, s, gs), some (vD (.int k a)), some (vD (.int k b)))) (next : Nx P X ops dr Q r i st log ⟨gs ++ [(x, vD (.int k a)), (y, vD (.int k b))], [], some s, some (vD (.int k (k.wrap (a - b)))), [], []⟩) : AV P X ops dr Q (r + 1) i st log :=
 E9 (BQ (t2 h).1) (t2 (t2 h).2).1 (t2 (t2 h).2).2 (NQ _ _ _ _ _ _) rfl next
theorem Mg {k : IntKind} {xt yt : TypeId} {x y : Operand} {a b : Int} {s : Nat} (h : (hd st.env ops i X.n, opd st.env x, opd st.env y) = (some (.binOp .mul xt x y yt, s, gs), some (vD (.int k a)), some (vD (.int k b)))) (next : Nx P X ops dr Q r i st log ⟨gs ++ [(x, vD (.int k a)), (y, vD (.int k b))], [], some s, some (vD (.int k (k.wrap (a * b)))), [], []⟩) : AV P X ops dr Q (r + 1) i st log :=
 E9 (BQ (t2 h).1) (t2 (t2 h).2).1 (t2 (t2 h).2).2 (N8 _ _ _ _ _ _) rfl next
theorem Cy {k : IntKind} {xt yt : TypeId} {x y : Operand} {a b : Int} {s : Nat} (h : (hd st.env ops i X.n, opd st.env x, opd st.env y) = (some (.binOp .eql xt x y yt, s, gs), some (vD (.int k a)), some (vD (.int k b)))) (next : Nx P X ops dr Q r i st log ⟨gs ++ [(x, vD (.int k a)), (y, vD (.int k b))], [], some s, some (vD (.bool (a == b))), [], []⟩) : AV P X ops dr Q (r + 1) i st log :=
 E9 (BQ (t2 h).1) (t2 (t2 h).2).1 (t2 (t2 h).2).2 (NV _ _ _ _ _ _) rfl next
theorem CV {k : IntKind} {xt yt : TypeId} {x y : Operand} {a b : Int} {s : Nat} (h : (hd st.env ops i X.n, opd st.env x, opd st.env y) = (some (.binOp .neq xt x y yt, s, gs), some (vD (.int k a)), some (vD (.int k b)))) (next : Nx P X ops dr Q r i st log ⟨gs ++ [(x, vD (.int k a)), (y, vD (.int k b))], [], some s, some (vD (.bool (a != b))), [], []⟩) : AV P X ops dr Q (r + 1) i st log :=
 E9 (BQ (t2 h).1) (t2 (t2 h).2).1 (t2 (t2 h).2).2 (NT _ _ _ _ _ _) rfl next
theorem Bw {k : IntKind} {xt yt : TypeId} {x y : Operand} {a b : Int} {s : Nat} (h : (hd st.env ops i X.n, opd st.env x, opd st.env y) = (some (.binOp .lss xt x y yt, s, gs), some (vD (.int k a)), some (vD (.int k b)))) (next : Nx P X ops dr Q r i st log ⟨gs ++ [(x, vD (.int k a)), (y, vD (.int k b))], [], some s, some (vD (.bool (decide (a < b)))), [], []⟩) : AV P X ops dr Q (r + 1) i st log :=
 E9 (BQ (t2 h).1) (t2 (t2 h).2).1 (t2 (t2 h).2).2 (Oe _ _ _ _ _ _) rfl next
theorem EB {k : IntKind} {xt yt : TypeId} {x y : Operand} {a b : Int} {s : Nat} (h : (hd st.env ops i X.n, opd st.env x, opd st.env y) = (some (.binOp .gtr xt x y yt, s, gs), some (vD (.int k a)), some (vD (.int k b)))) (next : Nx P X ops dr Q r i st log ⟨gs ++ [(x, vD (.int k a)), (y, vD (.int k b))], [], some s, some (vD (.bool (decide (b < a)))), [], []⟩) : AV P X ops dr Q (r + 1) i st log :=
 E9 (BQ (t2 h).1) (t2 (t2 h).2).1 (t2 (t2 h).2).2 (NJ _ _ _ _ _ _) rfl next
theorem FV {k : IntKind} {xt yt : TypeId} {x y : Operand} {a b : Int} {s : Nat} (h : (hd st.env ops i X.n, opd st.env x, opd st.env y) = (some (.binOp .geq xt x y yt, s, gs), some (vD (.int k a)), some (vD (.int k b)))) (next : Nx P X ops dr Q r i st log ⟨gs ++ [(x, vD (.int k a)), (y, vD (.int k b))], [], some s, some (vD (.bool (decide (b ≤ a)))), [], []⟩) : AV P X ops dr Q (r + 1) i st log :=
 E9 (BQ (t2 h).1) (t2 (t2 h).2).1 (t2 (t2 h).2).2 (Oi _ _ _ _ _ _) rfl next
theorem Kk {k : IntKind} {xt yt : TypeId} {x y : Operand} {a b : Int} {s : Nat} (h : (hd st.env ops i X.n, opd st.env x, opd st.env y) = (some (.binOp .and xt x y yt, s, gs), some (vD (.int k a)), some (vD (.int k b)))) (next : Nx P X ops dr Q r i st log ⟨gs ++ [(x, vD (.int k a)), (y, vD (.int k b))], [], some s, some (vD (.int k (E7 k a b))), [], []⟩) : AV P X ops dr Q (r + 1) i st log :=
 E9 (BQ (t2 h).1) (t2 (t2 h).2).1 (t2 (t2 h).2).2 (Oh _ _ _ _ _ _) rfl next
theorem O3 {k : IntKind} {xt yt : TypeId} {x y : Operand} {a b : Int} {s : Nat} (h : (hd st.env ops i X.n, opd st.env x, opd st.env y) = (some (.binOp .or xt x y yt, s, gs), some (vD (.int k a)), some (vD (.int k b)))) (next : Nx P X ops dr Q r i st log ⟨gs ++ [(x, vD (.int k a)), (y, vD (.int k b))], [], some s, some (vD (.int k (Lg k a b))), [], []⟩) : AV P X ops dr Q (r + 1) i st log :=
 E9 (BQ (t2 h).1) (t2 (t2 h).2).1 (t2 (t2 h).2).2 (Pu _ _ _ _ _ _) rfl next
theorem Kf {k : IntKind} {xt yt : TypeId} {x y : Operand} {a b : Int} {s : Nat} (h : (hd st.env ops i X.n, opd st.env x, opd st.env y) = (some (.binOp .andNot xt x y yt, s, gs), some (vD (.int k a)), some (vD (.int k b)))) (next : Nx P X ops dr Q r i st log ⟨gs ++ [(x, vD (.int k a)), (y, vD (.int k b))], [], some s, some (vD (.int k (C7 k a b))), [], []⟩) : AV P X ops dr Q (r + 1) i st log :=
 E9 (BQ (t2 h).1) (t2 (t2 h).2).1 (t2 (t2 h).2).2 (Le _ _ _ _ _ _) rfl next
theorem Iu {k k' : IntKind} {xt yt : TypeId} {x y : Operand} {a b : Int} {s : Nat} (h : (hd st.env ops i X.n, opd st.env x, opd st.env y) = (some (.binOp .shl xt x y yt, s, gs), some (vD (.int k a)), some (vD (.int k' b)))) (hc : 0 ≤ b) (next : Nx P X ops dr Q r i st log ⟨gs ++ [(x, vD (.int k a)), (y, vD (.int k' b))], [], some s, some (vD (.int k (C5 k a b))), [], []⟩) : AV P X ops dr Q (r + 1) i st log :=
 E9 (BQ (t2 h).1) (t2 (t2 h).2).1 (t2 (t2 h).2).2 (N1 _ _ _ _ _ _ _ hc) rfl next
theorem Jh {k k' : IntKind} {xt yt : TypeId} {x y : Operand} {a b : Int} {s : Nat} (h : (hd st.env ops i X.n, opd st.env x, opd st.env y) = (some (.binOp .shr xt x y yt, s, gs), some (vD (.int k a)), some (vD (.int k' b)))) (hc : 0 ≤ b) (next : Nx P X ops dr Q r i st log ⟨gs ++ [(x, vD (.int k a)), (y, vD (.int k' b))], [], some s, some (vD (.int k (E8 k a b))), [], []⟩) : AV P X ops dr Q (r + 1) i st log :=
 E9 (BQ (t2 h).1) (t2 (t2 h).2).1 (t2 (t2 h).2).2 (NP _ _ _ _ _ _ _ hc) rfl next
theorem Gq {k : IntKind} {xt yt : TypeId} {x y : Operand} {a b : Int} {s : Nat} (h : (hd st.env ops i X.n, opd st.env x, opd st.env y) = (some (.binOp .rem xt x y yt, s, gs), some (vD (.int k a)), some (vD (.int k b)))) (hc : b ≠ 0) (next : Nx P X ops dr Q r i st log ⟨gs ++ [(x, vD (.int k a)), (y, vD (.int k b))], [], some s, some (vD (.int k (a.tmod b))), [], []⟩) : AV P X ops dr Q (r + 1) i st log :=
 E9 (BQ (t2 h).1) (t2 (t2 h).2).1 (t2 (t2 h).2).2 (NL _ _ _ _ _ _ hc) rfl next
theorem CY {xt : TypeId} {x : Operand} {b : Bool} {s : Nat} (h : (hd st.env ops i X.n, opd st.env x) = (some (.unOp .not xt x, s, gs), some (bD b))) (next : Nx P X ops dr Q r i st log ⟨gs ++ [(x, bD b)], [], some s, some (vD (.bool (!b))), [], []⟩) : AV P X ops dr Q (r + 1) i st log :=
 Qp (BQ (t2 h).1) (t2 h).2 (O1 _) rfl next
theorem Kn {xt yt : TypeId} {k k' : IntKind} {x : Operand} {a : Int} {s : Nat} (hs : (P.underlying xt).isSome = true) (ht : Li P yt k = true) (h : (hd st.env ops i X.n, opd st.env x) = (some (.convert xt yt x, s, gs), some (vD (.int k' a)))) (next : Nx P X ops dr Q r i st log ⟨gs ++ [(x, vD (.int k' a))], [], some s, some (vD (.int k (k.wrap a))), [], []⟩) : AV P X ops dr Q (r + 1) i st log :=
 Po (BQ (t2 h).1) (t2 h).2 (Mq hs ht _ _) rfl next
theorem AB {α : Type} {f : α → List T} {xs : List α} {x : Operand} {s : Nat} {t el : TypeId} (ht : Bb P t el = true) (h : (hd st.env ops i X.n, opd st.env x) = (some (.call ⟨.builtin .len, #[x], #[t]⟩, s, gs), some (one (.sl (xs.map f))))) (next : Nx P X ops dr Q r i st log ⟨gs ++ [(x, one (.sl (xs.map f)))], [], some s, some (vD (.int .i64 (xs.length : Int))), [], []⟩) : AV P X ops dr Q (r + 1) i st log :=
 MK (BQ (t2 h).1) (t2 h).2 (.sl _) trivial (List.length_map _) ht next
theorem FI {α : Type} {f : α → List T} {xs : List α} {x : Operand} {s b e : Nat} {t el : TypeId} (ht : Bb P t el = true) (h : (hd st.env ops i X.n, opd st.env x, st.bx b) = (some (.call ⟨.builtin .len, #[x], #[t]⟩, s, gs), some (.e (.one (.own b))), some (.vec e (xs.map f)))) (next : Nx P X ops dr Q r i st log ⟨gs ++ [(x, .e (.one (.own b)))], [(b, .vec e (xs.map f))], some s, some (vD (.int .i64 (xs.length : Int))), [], []⟩) : AV P X ops dr Q (r + 1) i st log :=
 MK (BQ (t2 h).1) (t2 (t2 h).2).1 (.own _ _ _) ⟨(t2 (t2 h).2).2, trivial⟩ (List.length_map _) ht next
theorem Ch {t : TypeId} {s : Nat} {z : Value} {zs : List Value} {pl : List (Nat × Nat)} {cells : List C} {parts : Array (Nat × Operand)} {ps : List (Nat × Operand × E)} (hz : C0 P t = some z) (hpl : Fk P t = some pl) (h : (hd st.env ops i X.n, PD st.env parts.toList, z.cells.toList, zs.all EJ, Hh (pl[·]?) (zs.map fun v => C.pure (T.of v)) (ps.map fun p => (p.1, p.2.2))) = (some (.build t parts, s, gs), some ps, zs, true, some cells)) (next : Nx P X ops dr Q r i st log ⟨gs ++ EY ps, [], some s, some (.e (.agg cells)), [], []⟩) : AV P X ops dr Q (r + 1) i st log :=
 have q := Nf (t2 (t2 h).2).1
 NB ps (BQ (t2 h).1) (by rw [← q.1]) q.2 hz (t2 (t2 (t2 h).2).2).1 (t2 (t2 (t2 (t2 h).2).2).2).1 hpl (t2 (t2 (t2 (t2 h).2).2).2).2 next
theorem Df {t el : TypeId} {s n e : Nat} {z : Value} {rows : List (List T)} {parts : Array (Nat × Operand)} {ps : List (Nat × Operand × E)} (ht : Bb P t el = true) (he : E6 P el e = true) (hz : C0 P el = some z) (h : (hd st.env ops i X.n, PD st.env parts.toList, st.bx s, Ok 0 ps, ps.length, Nat.ble (n * e) 16777216, (ps.map fun p => (p.1, p.2.2)).mapM (fun p => p.2.ts), rows.all (fun row => row.length == e)) = (some (.buildSlice t n parts, s, gs), some ps, none, true, n, true, some rows, true)) (next : Nx P X ops dr Q r i st log ⟨gs ++ EY ps, [], some s, some (.e (.one (.own s))), [(s, .vec e rows)], [s]⟩) : AV P X ops dr Q (r + 1) i st log :=
 have q := Nf (t2 (t2 h).2).1
 have g := (t2 (t2 (t2 h).2).2).2
 JN ps (BQ (t2 h).1) (by rw [← q.1]) q.2 (t2 (t2 (t2 h).2).2).1 ht he hz (LK (t2 g).1) (t2 (t2 g).2).1 (Nat.le_of_ble_eq_true (t2 (t2 (t2 g).2).2).1) (t2 (t2 (t2 (t2 g).2).2).2).1 (t2 (t2 (t2 (t2 g).2).2).2).2 next
theorem AM {f s : Nat} {xs : List Operand} {ds0 ds : List D} {rv : List (Nat × List (List T))} {res : D} {ts : Array TypeId} (ns : List Nat) (hc : Au P f ds rv res) (hf : AS P f = true) (h : (hd st.env ops i X.n, M3 st.env xs, ds0.map D.nrm, ds.all L8, ns.length, Ex ns && (ns.all fun n => !AR n), ns.all (fun n => QF (st.bx n)), res.names.all (fun b => decide (b < rv.length))) = (some (.call ⟨.value (.func f), xs.toArray, ts⟩, s, gs), some ds0, ds, true, rv.length, true, true, true)) (next : Nx P X ops dr Q r i st log ⟨gs ++ Fs xs ds0, [], some s, some (res.ren (nm ns)), F2 ns rv, ns⟩) : AV P X ops dr Q (r + 1) i st log :=
 have q := Kc (t2 (t2 h).2).1
 have g := (t2 (t2 (t2 h).2).2).2
 OZ ns hc (BQ (t2 h).1) hf q.1 q.2 (t2 (t2 (t2 h).2).2).1 (t2 g).1 (t2 (t2 g).2).1 (Jr (t2 (t2 (t2 g).2).2).1) (JT (t2 (t2 (t2 (t2 g).2).2).2).1) (t2 (t2 (t2 (t2 g).2).2).2).2 next
theorem C2 {f s : Nat} {xs : List Operand} {ds0 ds : List D} {rv : List (Nat × List (List T))} {res : D} {ts : Array TypeId} {bs : List (Nat × AO)} (ns lb : List Nat) (hc : Au P f ds rv res) (hf : AS P f = true) (hfv : Kh rv) (h : (hd st.env ops i X.n, M3 st.env xs, Qn st.bx lb, ds0.map (fun d => (d.lend bs).nrm), ds.all L8, ns.length, Ex ns && (ns.all fun n => !AR n), ns.all (fun n => QF (st.bx n)), res.flat, res.names.all (fun b => decide (b < rv.length))) = (some (.call ⟨.value (.func f), xs.toArray, ts⟩, s, gs), some ds0, some bs, ds, true, rv.length, true, true, true, true)) (next : Nx P X ops dr Q r i st log ⟨gs ++ Fs xs ds0, bs, some s, some (res.ren (nm ns)), F2 ns rv, ns⟩) : AV P X ops dr Q (r + 1) i st log :=
 have q := Kc (t2 (t2 h).2).1
 have g := (t2 (t2 (t2 h).2).2).2
 have g2 := (t2 (t2 (t2 g).2).2).2
 Nq ns bs hc (BQ (t2 h).1) hf q.1 q.2 (MO (t2 (t2 (t2 h).2).2).1) (t2 g).1 (t2 (t2 g).2).1 (t2 (t2 (t2 g).2).2).1 (Jr (t2 g2).1) (JT (t2 (t2 g2).2).1) (t2 (t2 (t2 g2).2).2).1 hfv (t2 (t2 (t2 g2).2).2).2 next
theorem DE {α : Type} {f : α → List T} {xs : List α} {ys : List α} {x y : Operand} {t t2' el el2 s e bytes b b2 : Nat} {z : Value} (ht : Bb P t el = true) (ht2 : Bb P t2' el2 = true) (he : E6 P el e = true) (hby : Eh P el bytes = true) (hz : C0 P el = some z) (hlim : xs.length + ys.length ≤ Dr) (h : (hd st.env ops i X.n, opd st.env x, st.bx b, opd st.env y, st.bx b2, st.bx s, z.cells.size, Nat.ble bytes 4096, [b].all (fun b => !AR b)) = (some (.call ⟨.builtin .append, #[x, y], #[t, t2']⟩, s, gs), some (.e (.one (.own b))), some (.vec e (xs.map f)), some (.e (.one (.own b2))), some (.vec e (ys.map f)), none, e, true, true)) (next : Nx P X ops dr Q r i st log ⟨gs ++ [(x, .e (.one (.own b))), (y, .e (.one (.own b2)))], [(b, .vec e (xs.map f))] ++ [(b2, .vec e (ys.map f))], some s, some (.e (.one (.own s))), (s, .vec e ((xs ++ ys).map f)) :: DC [b], [s]⟩) : AV P X ops dr Q (r + 1) i st log :=
 KI (BQ (t2 h).1) (t2 (t2 h).2).1 (.own _ _ _) ⟨(t2 (t2 (t2 h).2).2).1, trivial⟩ (t2 (t2 (t2 (t2 h).2).2).2).1 (.own _ _ _) ⟨(t2 (t2 (t2 (t2 (t2 h).2).2).2).2).1, trivial⟩ (t2 (t2 (t2 (t2 (t2 (t2 h).2).2).2).2).2).1 ht ht2 he hby (Nat.le_of_ble_eq_true (t2 (t2 (t2 (t2 (t2 (t2 (t2 (t2 h).2).2).2).2).2).2).2).1) hz (t2 (t2 (t2 (t2 (t2 (t2 (t2 h).2).2).2).2).2).2).1 (by simpa using hlim) (by simp) (t2 (t2 (t2 (t2 (t2 (t2 (t2 (t2 h).2).2).2).2).2).2).2).2 next
theorem HD {α : Type} {f : α → List T} {xs : List α} {ys : List α} {x y : Operand} {t t2' el el2 s e bytes b : Nat} {z : Value} (ht : Bb P t el = true) (ht2 : Bb P t2' el2 = true) (he : E6 P el e = true) (hby : Eh P el bytes = true) (hz : C0 P el = some z) (hf : ∀ x, (f x).length = e) (hlim : xs.length + ys.length ≤ Dr) (h : (hd st.env ops i X.n, opd st.env x, st.bx b, opd st.env y, st.bx s, z.cells.size, Nat.ble bytes 4096, [b].all (fun b => !AR b)) = (some (.call ⟨.builtin .append, #[x, y], #[t, t2']⟩, s, gs), some (.e (.one (.own b))), some (.vec e (xs.map f)), some (one (.sl (ys.map f))), none, e, true, true)) (next : Nx P X ops dr Q r i st log ⟨gs ++ [(x, .e (.one (.own b))), (y, one (.sl (ys.map f)))], [(b, .vec e (xs.map f))] ++ [], some s, some (.e (.one (.own s))), (s, .vec e ((xs ++ ys).map f)) :: DC [b], [s]⟩) : AV P X ops dr Q (r + 1) i st log :=
 KI (BQ (t2 h).1) (t2 (t2 h).2).1 (.own _ _ _) ⟨(t2 (t2 (t2 h).2).2).1, trivial⟩ (t2 (t2 (t2 (t2 h).2).2).2).1 (.sl _ _ (MW hf _)) trivial (t2 (t2 (t2 (t2 (t2 h).2).2).2).2).1 ht ht2 he hby (Nat.le_of_ble_eq_true (t2 (t2 (t2 (t2 (t2 (t2 (t2 h).2).2).2).2).2).2).1) hz (t2 (t2 (t2 (t2 (t2 (t2 h).2).2).2).2).2).1 (by simpa using hlim) (by simp) (t2 (t2 (t2 (t2 (t2 (t2 (t2 h).2).2).2).2).2).2).2 next
end run
end Go.Lift
namespace Go.Lift
open Go.RowKit
variable {P : Program}
def Qm (P : Program) : List D → List D → Prop
 | [], [] => True
 | a :: ar, b :: bs => (∀ (w : World) (G : Gh) (v : Value), DZ P w G v a → DZ P w G v b) ∧ Qm P ar bs
 | _, _ => False
theorem Qm.get : ∀ {ar bs : List D}, Qm P ar bs → ar.length = bs.length ∧ ∀ (j : Nat) (b : D), bs[j]? = some b → ∃ a, ar[j]? = some a ∧ ∀ (w : World) (G : Gh) (v : Value), DZ P w G v a → DZ P w G v b
 | [], [], _ => ⟨rfl, fun j b h => by simp at h⟩
 | a :: ar, b :: bs, h => by
  obtain ⟨h1, h2⟩ := Qm.get h.2
  refine ⟨by simp [h1], fun j c hj => ?_⟩
  cases j with
  | zero => simp at hj; subst hj; exact ⟨a, rfl, h.1⟩
  | succ j => obtain ⟨a', g1, g2⟩ := h2 j c (by simpa using hj); exact ⟨a', by simpa using g1, g2⟩
end Go.Lift
namespace Go.Lift
open Go.RowKit
variable {P : Program} {X : EM} {ops : Array Oper}
section run
variable {dr : Bool} {Q : St → Prop} {r i : Nat} {st : St} {log : List (Nat × Bz)} {gs : List (Operand × D)}
end run
end Go.Lift
namespace Go.Lift
abbrev iC (x : Int) : C := .pure (.val (.int .i64 x))
abbrev sC (l : List (List T)) : C := .pure (.sl l)
abbrev iD (x : Int) : D := .e (.one (.pure (.val (.int .i64 x))))
abbrev pD (t : T) : D := .e (.one (.pure t))
abbrev oD (c : C) : D := .e (.one c)
theorem tv : True := trivial
end Go.Lift
namespace Go.Lift
open Go.RowKit
variable {P : Program} {X : EM} {ops : Array Oper}
section run
variable {dr : Bool} {Q : St → Prop} {r i : Nat} {st : St} {log : List (Nat × Bz)} {o : Oper} {gs : List (Operand × D)}
end run
end Go.Lift
namespace Go.Lift
open Go.RowKit
variable {P : Program} {X : EM} {ops : Array Oper}
def nt (b : Nat) (ns : List Nat) (c : Nat) : Nat := if c = 90900 then b else ns.getD c 0
section run
variable {dr : Bool} {Q : St → Prop} {r i : Nat} {st : St} {log : List (Nat × Bz)} {o : Oper} {gs : List (Operand × D)}
end run
end Go.Lift
namespace Go.Lift
open Go.RowKit
variable {P : Program} {X : EM} {ops : Array Oper}
end Go.Lift
namespace Go.Lift
open Go.RowKit
variable {P : Program} {X : EM} {ops : Array Oper}
section run
variable {dr : Bool} {Q : St → Prop} {r i : Nat} {st : St} {log : List (Nat × Bz)} {o : Oper} {gs : List (Operand × D)}
end run
end Go.Lift
namespace Go.Lift
open Go.RowKit
variable {P : Program} {X : EM} {ops : Array Oper}
theorem Jw {st : St} (b s ix k : Nat) {e e2 : Nat} {cols cols2 : List Ow} {rows rows2 : List (List T)} {row : List T} (hb : st.bx b = some (.dvec e cols rows)) (hrow : rows[ix]? = some row) (hc : row[k]? = some (.sl rows2)) (hcol : cols.getD k .s = .x e2 cols2) (hbl : AR b = false) (hsl : AR s = false) (hnew : st.bx s = none) :
  DY P X st ⟨st.env, AT st.bx [(b, .hol e cols ix k s rows), (s, CQ e2 cols2 rows2)]⟩ := by
 rintro a w ⟨G, hs⟩
 have hsb : s ≠ b := fun e => by rw [e, hb] at hnew; cases hnew
 obtain ⟨β, cap, arr, el, Rf, hβ, h1, h2, h3, h4, h5, h6, h7, h8, h9, h10⟩ := Lw (hs.blk b _ hb) hrow
 have hre := h5 ix row hrow
 have hk := Al hc
 have hcell := h6 ix row k _ hrow hc
 rw [hcol] at hcell
 obtain ⟨l, m, g1, g2, g3⟩ := KL (P := P) hcell
 let G' : Gh := { S := G.S, loc := fun c => if c = s then l else G.loc c, hd := fun c => if c = s then Ah arr (ix * e + k) else G.hd c, more := fun c => if c = s then m else if c = b then (fun γ => G.more b γ ∧ ¬ Rf ix k γ) else G.more c }
 have hsome : ∀ c, (st.bx c).isSome = true → c ≠ s := fun c hc e => by rw [e, hnew] at hc; cases hc
 have hbx : ∀ c, AT st.bx [(b, .hol e cols ix k s rows), (s, CQ e2 cols2 rows2)] c = if c = b then some (.hol e cols ix k s rows) else if c = s then some (CQ e2 cols2 rows2) else st.bx c := fun c => rfl
 have hasS : ∀ γ, G'.has s γ → Rf ix k γ := fun γ h => by
  unfold Gh.has at h
  simp only [G', if_true] at h
  exact g1 γ h
 have hasB : ∀ γ, G'.has b γ → G.has b γ ∧ ¬ Rf ix k γ := fun γ h => by
  unfold Gh.has at h
  simp only [G', if_neg hsb.symm, if_true] at h
  rcases h with h | h
  ·refine ⟨.inl h, fun hr => ?_⟩
   rw [hβ] at h; cases h
   exact h8 ix k hr
  ·exact ⟨.inr h.1, h.2⟩
 have hasO : ∀ c γ, c ≠ s → c ≠ b → (G'.has c γ ↔ G.has c γ) := fun c γ h1 h2 => by
  unfold Gh.has
  simp only [G', if_neg h1, if_neg h2]
 have hbl2 := hsl
 have key : BT P X G' ⟨st.env, AT st.bx [(b, .hol e cols ix k s rows), (s, CQ e2 cols2 rows2)]⟩ a w := by
  refine hs.frame2 ?_ (fun _ h => h) (fun c hc => by simp only [G']; rw [if_neg (hsome c hc)]) (fun c hc => by simp only [G']; rw [if_neg (hsome c hc)]) (fun _ _ => rfl) ?_ ?_ ?_ hs.S_lt hs.S_src hs.below (fun c hc => ?_)
  ·intro c hc; rw [hbx]; split
   ·rfl
   ·split
    ·rfl
    ·exact hc
  ·intro c kk hc
   rw [hbx] at hc
   split at hc
   ·rename_i e1; subst e1; cases hc
    refine .inr ⟨⟨β, cap, arr, el, fun i j γ => Rf i j γ ∧ ¬ (i = ix ∧ j = k), ?_, ?_, h2, h3, h4, h5, ?_, ?_, fun i j h => h8 i j h.1, fun i j i' j' γ h h' => h9 i j i' j' γ h.1 h'.1, ?_, ?_⟩, fun c' hc' => ?_⟩
    ·simp only [G', if_neg hsb.symm]; exact hβ
    ·simp only [G', if_neg hsb.symm]; exact h1
    ·intro i0 row0 j0 t0 hi hj hne
     exact (h6 i0 row0 j0 t0 hi hj).mono (fun _ _ => rfl) (fun _ h => h) (fun γ hγ => ⟨hγ, hne⟩)
    ·intro i0 j0 γ hγ
     simp only [G', if_neg hsb.symm, if_true]
     exact ⟨h7 i0 j0 γ hγ.1, fun hr => hγ.2 (h9 i0 j0 ix k γ hγ.1 hr)⟩
    ·simp only [G', if_true]
    ·simp only [G', if_true]; exact g2
    ·have : c' = s := by simpa [AO.names] using hc'
     subst this
     rw [hbx, if_neg hsb, if_pos rfl]; rfl
   ·rename_i e1
    split at hc
    ·rename_i e2'; subst e2'; cases hc
     exact .inr ⟨g3 G' c (fun _ h => h) (by simp [G']) (by simp [G']) (fun γ hγ => by simp [G', hγ]), fun c' hc' => by rw [HV] at hc'; cases hc'⟩
    ·rename_i e2'
     exact .inl ⟨hc, by simp only [G', if_neg e1, if_neg e2'], fun _ _ _ => rfl⟩
  ·intro c kk γ hc hr hγ
   rw [hbx] at hc
   split at hc
   ·rename_i e1; subst e1
    exact hs.at_ok c _ γ hb rfl (hasB γ hγ).1
   ·rename_i e1
    split at hc
    ·rename_i e2'; subst e2'
     have := hs.at_ok b _ γ hb rfl (.inr (h7 ix k γ (hasS γ hγ)))
     exact ⟨.new (this.1.1 hbl), this.2⟩
    ·rename_i e2'
     exact hs.at_ok c kk γ hc hr ((hasO c γ e2' e1).1 hγ)
  ·intro c c' kk kk' γ hc hc' hr hr' hγ hγ'
   rw [hbx] at hc hc'
   have cl : ∀ c kk, (if c = b then some (AO.hol e cols ix k s rows) else if c = s then some (CQ e2 cols2 rows2) else st.bx c) = some kk → kk.real = true → G'.has c γ → (c = b ∧ G.has b γ ∧ ¬ Rf ix k γ) ∨ (c = s ∧ Rf ix k γ) ∨ (c ≠ b ∧ st.bx c = some kk ∧ G.has c γ) := by
    intro c kk hc hr hγ
    split at hc
    ·rename_i e1; subst e1; exact .inl ⟨rfl, hasB γ hγ⟩
    ·rename_i e1
     split at hc
     ·rename_i e2'; subst e2'; exact .inr (.inl ⟨rfl, hasS γ hγ⟩)
     ·rename_i e2'; exact .inr (.inr ⟨e1, hc, (hasO c γ e2' e1).1 hγ⟩)
   rcases cl c kk hc hr hγ with ⟨q1, q2, q3⟩ | ⟨q1, q2⟩ | ⟨q1, q2, q3⟩ <;> rcases cl c' kk' hc' hr' hγ' with ⟨q1', q2', q3'⟩ | ⟨q1', q2'⟩ | ⟨q1', q2', q3'⟩
   ·rw [q1, q1']
   ·exact (q3 q2').elim
   ·exact (q1' (hs.at_inj c' b _ _ γ q2' hb hr' rfl q3' q2)).elim
   ·exact (q3' q2).elim
   ·rw [q1, q1']
   ·exact (q1' (hs.at_inj c' b _ _ γ q2' hb hr' rfl q3' (.inr (h7 ix k γ q2)))).elim
   ·exact (q1 (hs.at_inj c b _ _ γ q2 hb hr rfl q3 q2')).elim
   ·exact (q1 (hs.at_inj c b _ _ γ q2 hb hr rfl q3 (.inr (h7 ix k γ q2')))).elim
   ·exact hs.at_inj c c' kk kk' γ q2 q2' hr hr' q3 q3'
  ·have e1 : c ≠ s := fun e => by rw [e, hbl2] at hc; cases hc
   have e2' : c ≠ b := fun e => by rw [e, hbl] at hc; cases hc
   refine ⟨?_, ?_, ?_⟩ <;> simp only [G', if_neg e1, if_neg e2']
 exact ⟨G', key⟩
theorem Em {st : St} (b c : Nat) {e ix k e2 : Nat} {cols cols2 : List Ow} {rows rows2 rows' : List (List T)} {row : List T} (hb : st.bx b = some (.hol e cols ix k c rows)) (hc : st.bx c = some (CQ e2 cols2 rows2)) (hcol : cols.getD k .s = .x e2 cols2) (hrow : rows[ix]? = some row)
  (hbl : AR b = false) (hcl : AR c = false) (hr : rows.set ix (row.set k (.sl rows2)) = rows') : DY P X st ⟨st.env, AT st.bx [(b, .dvec e cols rows'), (c, .gone)]⟩ := by
 have hcb : c ≠ b := fun e' => by rw [e', hb] at hc; unfold CQ at hc; split at hc <;> cases hc
 subst hr
 rintro a w ⟨G, hs⟩
 obtain ⟨β, cap, arr, el, Rf, hβ, h1, h2, h3, h4, h5, h6, h7, h8, h9, h10, h11⟩ := hs.blk b _ hb
 have hX := Kl (hs.blk c _ hc)
 have hre := h5 ix row hrow
 let G' : Gh := { G with more := fun d => if d = b then (fun γ => G.more b γ ∨ G.has c γ) else G.more d }
 have hcβ : ∀ γ, G.has c γ → γ ≠ β := fun γ h e' => hcb (hs.at_inj c b _ _ γ hc hb CP rfl h (.inl (e' ▸ hβ)))
 have hbx : ∀ d, AT st.bx [(b, .dvec e cols (rows.set ix (row.set k (.sl rows2)))), (c, .gone)] d = if d = b then some (.dvec e cols (rows.set ix (row.set k (.sl rows2)))) else if d = c then some .gone else st.bx d := fun d => rfl
 have hasO : ∀ d γ, d ≠ b → (G'.has d γ ↔ G.has d γ) := fun d γ h => by unfold Gh.has; simp only [G', if_neg h]
 have hasB : ∀ γ, G'.has b γ → G.has b γ ∨ G.has c γ := fun γ h => by
  unfold Gh.has at h
  simp only [G', if_true] at h
  rcases h with h | h | h
  ·exact .inl (.inl h)
  ·exact .inl (.inr h)
  ·exact .inr h
 refine ⟨G', ?_⟩
 refine hs.frame2 (fun d hd => ?_) (fun _ h => h) (fun _ _ => rfl) (fun _ _ => rfl) (fun _ _ => rfl) ?_ ?_ ?_ hs.S_lt hs.S_src hs.below (fun d hd => ?_)
 ·rw [hbx]; split
  ·rfl
  ·split
   ·rfl
   ·exact hd
 ·intro d kk hd
  rw [hbx] at hd
  split at hd
  ·rename_i e1; subst e1; cases hd
   refine .inr ⟨.inr ⟨β, cap, arr, el, fun i0 j0 γ => if i0 = ix ∧ j0 = k then G.has c γ else Rf i0 j0 γ, hβ, by rw [List.length_set]; exact h1, h2, by rw [List.length_set]; exact h3, h4, ?_, ?_, ?_, ?_, ?_⟩, fun c' hc' => by cases hc'⟩
   ·intro j0 row' hj
    rcases EG hj with ⟨_, rfl⟩ | ⟨_, hj⟩
    ·rw [List.length_set]; exact hre
    ·exact h5 j0 row' hj
   ·intro i0 row' j0 t0 hi hj
    have hj0 : j0 < e := by
     have := Al hj
     rcases EG hi with ⟨_, rfl⟩ | ⟨_, hi⟩
     ·rw [List.length_set] at this; omega
     ·have := h5 i0 row' hi; omega
    by_cases hh : i0 = ix ∧ j0 = k
    ·obtain ⟨rfl, rfl⟩ := hh
     rw [hcol]
     have ht0 : t0 = .sl rows2 := by
      rcases EG hi with ⟨_, rfl⟩ | ⟨hne, _⟩
      ·rcases EG hj with ⟨_, rfl⟩ | ⟨hne, _⟩
       ·rfl
       ·exact (hne rfl).elim
      ·exact (hne rfl).elim
     subst ht0
     rw [h10]
     exact hX.mono (fun _ _ => rfl) (fun _ h => h) (fun γ hγ => by simp only [and_self, if_true]; exact hγ)
    ·have hold : ∃ row0, rows[i0]? = some row0 ∧ row0[j0]? = some t0 := by
      rcases EG hi with ⟨hii, rfl⟩ | ⟨_, hi⟩
      ·subst hii
       rcases EG hj with ⟨hjj, _⟩ | ⟨_, hj⟩
       ·exact (hh ⟨rfl, hjj⟩).elim
       ·exact ⟨row, hrow, hj⟩
      ·exact ⟨row', hi, hj⟩
     obtain ⟨row0, q1, q2⟩ := hold
     exact (h6 i0 row0 j0 t0 q1 q2 hh).mono (fun _ _ => rfl) (fun _ h => h) (fun γ hγ => by simp only [if_neg hh]; exact hγ)
   ·intro i0 j0 γ hγ
    simp only [G', if_true]
    split at hγ
    ·exact .inr hγ
    ·exact .inl (h7 i0 j0 γ hγ)
   ·intro i0 j0 hγ
    split at hγ
    ·exact hcβ β hγ rfl
    ·exact h8 i0 j0 hγ
   ·intro i0 j0 i1 j1 γ hγ hγ'
    have cross : ∀ i j, Rf i j γ → G.has c γ → False := fun i j hr hh => hcb (hs.at_inj c d _ _ γ hc hb CP rfl hh (.inr (h7 i j γ hr)))
    split at hγ <;> split at hγ'
    ·rename_i q q'; exact ⟨q.1.trans q'.1.symm, q.2.trans q'.2.symm⟩
    ·exact (cross _ _ hγ' hγ).elim
    ·exact (cross _ _ hγ hγ').elim
    ·exact h9 i0 j0 i1 j1 γ hγ hγ'
  ·rename_i e1
   split at hd
   ·cases hd; exact .inr ⟨trivial, fun c' hc' => by cases hc'⟩
   ·rename_i e2'
    exact .inl ⟨hd, by simp only [G', if_neg e1], fun _ _ _ => rfl⟩
 ·intro d kk γ hd hr hγ
  rw [hbx] at hd
  split at hd
  ·rename_i e1; subst e1
   rcases hasB γ hγ with h | h
   ·exact hs.at_ok d _ γ hb rfl h
   ·have := hs.at_ok c _ γ hc CP h
    exact ⟨.new (this.1.1 hcl), this.2⟩
  ·rename_i e1
   split at hd
   ·cases hd; cases hr
   ·exact hs.at_ok d kk γ hd hr ((hasO d γ e1).1 hγ)
 ·intro d d' kk kk' γ hd hd' hr hr' hγ hγ'
  rw [hbx] at hd hd'
  have cl : ∀ d kk, (if d = b then some (AO.dvec e cols (rows.set ix (row.set k (.sl rows2)))) else if d = c then some .gone else st.bx d) = some kk → kk.real = true → G'.has d γ → (d = b ∧ (G.has b γ ∨ G.has c γ)) ∨ (d ≠ b ∧ d ≠ c ∧ st.bx d = some kk ∧ G.has d γ) := by
   intro d kk hd hr hγ
   split at hd
   ·rename_i e1; subst e1; exact .inl ⟨rfl, hasB γ hγ⟩
   ·rename_i e1
    split at hd
    ·cases hd; cases hr
    ·rename_i e2'; exact .inr ⟨e1, e2', hd, (hasO d γ e1).1 hγ⟩
  rcases cl d kk hd hr hγ with ⟨q1, q2⟩ | ⟨q1, q2, q3, q4⟩ <;> rcases cl d' kk' hd' hr' hγ' with ⟨q1', q2'⟩ | ⟨q1', q2', q3', q4'⟩
  ·rw [q1, q1']
  ·rcases q2 with h | h
   ·exact (q1' (hs.at_inj d' b _ _ γ q3' hb hr' rfl q4' h)).elim
   ·exact (q2' (hs.at_inj d' c _ _ γ q3' hc hr' CP q4' h)).elim
  ·rcases q2' with h | h
   ·exact (q1 (hs.at_inj d b _ _ γ q3 hb hr rfl q4 h)).elim
   ·exact (q2 (hs.at_inj d c _ _ γ q3 hc hr CP q4 h)).elim
  ·exact hs.at_inj d d' kk kk' γ q3 q3' hr hr' q4 q4'
 ·have e1 : d ≠ b := fun e' => by rw [e', hbl] at hd; cases hd
  refine ⟨rfl, rfl, ?_⟩
  simp only [G', if_neg e1]
theorem IC {rows : List (List T)} {ix k : Nat} {row : List T} {t : T} (h : rows[ix]? = some row) (hk : row[k]? = some t) : rows.set ix (row.set k t) = rows := by
 have h1 : row.set k t = row := by
  apply List.ext_getElem?
  intro j
  rw [List.getElem?_set]
  split
  ·rename_i e; subst e; split
   ·exact hk.symm
   ·rename_i hn; exact absurd (Al hk) hn
  ·rfl
 rw [h1]
 apply List.ext_getElem?
 intro j
 rw [List.getElem?_set]
 split
 ·rename_i e; subst e; split
  ·exact h.symm
  ·rename_i hn; exact absurd (Al h) hn
 ·rfl
section run
variable {dr : Bool} {Q : St → Prop} {r i : Nat} {st : St} {log : List (Nat × Bz)} {o : Oper} {gs : List (Operand × D)}
theorem H8 {x : Operand} {b c e ix k s : Nat} {cols : List Ow} {rows : List (List T)} {row : List T} {u : T} {t : TypeId} (hat : At st.env ops i X.n (.load t x) s gs)
  (hx : opd st.env x = some (.e (.one (.eptr b e ix k)))) (ht : CH P t false = true) (hb : st.bx b = some (.hol e cols ix k c rows)) (hrow : rows[ix]? = some row) (hc : row[k]? = some u)
  (next : AV P X ops dr Q r (i + 1) (Bz.upd ⟨gs ++ [(x, .e (.one (.eptr b e ix k)))], [(b, .hol e cols ix k c rows)], some s, some (.e (.one (.own c))), [], []⟩ st) ((i, ⟨gs ++ [(x, .e (.one (.eptr b e ix k)))], [(b, .hol e cols ix k c rows)], some s, some (.e (.one (.own c))), [], []⟩) :: log)) : AV P X ops dr Q (r + 1) i st log := by
 obtain ⟨o, ho, hop, hd, hn, hg, hgp⟩ := hat.out
 refine AV.step next ⟨Ad.2 ⟨hgp, hx, trivial⟩, ⟨hb, trivial⟩, trivial⟩ (LR.value ho hg rfl hd.symm (Cm hd hn) ?_)
 intro G st a w hs hpre
 have hx := (Ad.1 hpre.r).2.1
 have hb := hpre.b.1
 obtain ⟨β, hβ, hv⟩ : CD P w G (a.eval x) (.eptr b e ix k) := hs.opd hx
 obtain ⟨β', cap, arr, el, Rf, h0, h1, h2, h3, h4, h5, h6, h7, h8, h9, h10, h11⟩ := hs.blk b _ hb
 rw [hβ] at h0; cases h0
 have hre := h5 ix row hrow
 have hk := Al hc
 have hix := Al hrow
 have hbnd : ix * e + e ≤ arr.size := by rw [h4, ← Nat.succ_mul]; exact Nat.mul_le_mul_right e (Nat.le_trans hix h3)
 refine ⟨Ah arr (ix * e + k), w, G, ?_, hs, ?_⟩
 ·simp only [execOp, hop, hv]
  exact Ag (Es ht h2 (by omega)) rfl
 ·rintro d ⟨⟩
  refine ⟨⟨h10, by rw [h10]; exact h11⟩, fun b' hb' => ?_⟩
  have : b' = c := by simpa [D.names, E.names, C.names] using hb'
  subst this
  exact hs.liveB b _ hb b' (by simp [AO.names])
def MJ (bx : Nat → Option AO) : C → Ow → T → Prop
 | .pure u, .s, t => u = t
 | .own c, .x e2 cols2, .sl rows2 => bx c = some (CQ e2 cols2 rows2)
 | _, _, _ => False
def Lf (bx : Nat → Option AO) : Nat → List Ow → List C → List T → Prop
 | _, _, [], [] => True
 | j, cols, c :: cs, t :: ts => MJ bx c (cols.getD j .s) t ∧ Lf bx (j + 1) cols cs ts
 | _, _, _, _ => False
def Ii : Nat → List Ow → List C → List T → List (Nat × AO)
 | j, cols, .own c :: cs, .sl rows2 :: ts => (match cols.getD j .s with | .x e2 cols2 => [(c, CQ e2 cols2 rows2)] | .s => []) ++ Ii (j + 1) cols cs ts
 | j, cols, _ :: cs, _ :: ts => Ii (j + 1) cols cs ts
 | _, _, _, _ => []
theorem I3 {bx : Nat → Option AO} {cols : List Ow} : ∀ {cs : List C} {ts : List T} {j0 : Nat}, Lf bx j0 cols cs ts → cs.length = ts.length ∧ ∀ (j : Nat) (c : C) (t : T), cs[j]? = some c → ts[j]? = some t → MJ bx c (cols.getD (j0 + j) .s) t
 | [], [], _, _ => ⟨rfl, fun j c t h => by simp at h⟩
 | c :: cs, t :: ts, j0, h => by
  obtain ⟨g1, g2⟩ := I3 h.2
  refine ⟨by simp [g1], fun j c' t' hc ht => ?_⟩
  cases j with
  | zero => simp at hc ht; subst hc; subst ht; exact h.1
  | succ j =>
   have := g2 j c' t' (by simpa using hc) (by simpa using ht)
   rwa [show j0 + 1 + j = j0 + (j + 1) from by omega] at this
end run
end Go.Lift
namespace Go.Lift
open List renaming mem_of_getElem? → lM
open Go.RowKit
variable {P : Program} {X : EM} {ops : Array Oper}
theorem Nh {e : Nat} {arr : Array Value} {v : Value} (ha : arr.size = 1 * e) (hv : v.cells.size = e) :
  ∃ arr', Instr.fill (fun i => some (i * e, e)) arr [(0, v)] = some arr' ∧ arr'.size = 1 * e ∧ ∀ j, j < e → Ah arr' j = Ah v.cells j := by
 refine ⟨Dd arr 0 v.cells.toList, ?_, by rw [DW, ha], fun j hj => ?_⟩
 ·simp only [Instr.fill]
  rw [if_neg (by simp; omega), HA]
  simp
 ·rw [CZ _ _ _ _ (by simp; omega), if_pos (by simp; omega), CK, Nat.sub_zero]
theorem L0 {bx : Nat → Option AO} {c : C} {o : Ow} {t : T} (h : MJ bx c o t) : (∃ u, c = .pure u ∧ o = .s ∧ t = u) ∨ ∃ b e2 cols2 rows2, c = .own b ∧ o = .x e2 cols2 ∧ t = .sl rows2 ∧ bx b = some (CQ e2 cols2 rows2) := by
 cases c with
 | pure u =>
  cases o with
  | s => exact .inl ⟨u, rfl, rfl, h.symm⟩
  | x e cols => exact h.elim
 | own b =>
  cases o with
  | s => exact h.elim
  | x e cols =>
   cases t with
   | sl rows2 => exact .inr ⟨b, e, cols, rows2, rfl, rfl, rfl, h⟩
   | _ => exact h.elim
 | _ => cases o <;> exact h.elim
section run
variable {dr : Bool} {Q : St → Prop} {r i : Nat} {st : St} {log : List (Nat × Bz)} {o : Oper} {gs : List (Operand × D)}
def BI : List C → List Nat
 | [] => []
 | .own c :: cs => c :: BI cs
 | _ :: cs => BI cs
theorem Dt {b : Nat} : ∀ {cs : List C}, b ∈ BI cs ↔ .own b ∈ cs
 | [] => by simp [BI]
 | c :: cs => by
  cases c <;> simp [BI, Dt (cs := cs)]
theorem H0 : ∀ {cs : List C}, (BI cs).Nodup → ∀ (j j' b : Nat), cs[j]? = some (.own b) → cs[j']? = some (.own b) → j = j'
 | [], _, j, j', b, h, _ => by simp at h
 | c :: cs, hn, j, j', b, h, h' => by
  have hn2 : (BI cs).Nodup := by
   cases c <;> simp only [BI] at hn <;> first | exact hn | exact (List.nodup_cons.1 hn).2
  have hnot : c = .own b → .own b ∉ cs := fun e hm => by
   subst e
   simp only [BI] at hn
   exact (List.nodup_cons.1 hn).1 (Dt.2 hm)
  cases j with
  | zero =>
   cases j' with
   | zero => rfl
   | succ j' =>
    simp at h h'
    exact (hnot h (lM h')).elim
  | succ j =>
   cases j' with
   | zero =>
    simp at h h'
    exact (hnot h' (lM h)).elim
   | succ j' =>
    rw [H0 hn2 j j' b (by simpa using h) (by simpa using h')]
theorem GH {t el : TypeId} {s e : Nat} {z : Value} {y : Operand} {x : E} {cs : List C} {ts : List T} (cols : List Ow) (rb : List (Nat × AO)) {parts : Array (Nat × Operand)} (hat : At st.env ops i X.n (.buildSlice t 1 parts) s gs) (hps : parts = #[(0, y)])
  (hx : opd st.env y = some (.e x)) (hcs : x.cells = cs) (hlen : cs.length = e) (hrb : Ii 0 cols cs ts = rb) (hb : EH st.bx rb) (hcx : Lf st.bx 0 cols cs ts) (hnew : st.bx s = none)
  (hnd : Ex (BI cs) = true) (hnl : (BI cs).all (fun c => !AR c) = true) (ht : Bb P t el = true) (he : E6 P el e = true) (hz : C0 P el = some z) (hsm : e ≤ 16777216)
  (next : AV P X ops dr Q r (i + 1) (Bz.upd ⟨gs ++ [(y, .e x)], rb, some s, some (.e (.one (.own s))), (s, .dvec e cols [ts]) :: DC (BI cs), [s]⟩ st) ((i, ⟨gs ++ [(y, .e x)], rb, some s, some (.e (.one (.own s))), (s, .dvec e cols [ts]) :: DC (BI cs), [s]⟩) :: log)) : AV P X ops dr Q (r + 1) i st log := by
 obtain ⟨o, ho, hop, hdst, hn, hg, hgp⟩ := hat.out
 have hndp := Ev hnd
 refine AV.step next ⟨Ad.2 ⟨hgp, hx, trivial⟩, hb, hnew, trivial⟩ (LR.value ho hg rfl hdst.symm (Cm hdst hn) ?_)
 have hcx0 := I3 hcx
 intro G st' a w hs hpre
 have hx := (Ad.1 hpre.r).2.1
 have hnew := hpre.n.1
 have hb := hpre.b
 have hpb : ∀ {l : List (Nat × AO)}, EH st'.bx l → ∀ p, p ∈ l → st'.bx p.1 = some p.2 := by
  intro l
  induction l with
  | nil => intro _ p hp; cases hp
  | cons q l ih =>
   intro h p hp
   rcases List.mem_cons.1 hp with e | e
   ·subst e; exact h.1
   ·exact ih h.2 p e
 -- what each cell is, in this state
 have hown : ∀ (j : Nat) (c : C) (u : T), cs[j]? = some c → ts[j]? = some u → (∃ v, c = .pure v ∧ cols.getD j .s = .s ∧ u = v) ∨ ∃ b e2 cols2 rows2, c = .own b ∧ cols.getD j .s = .x e2 cols2 ∧ u = .sl rows2 ∧ st'.bx b = some (CQ e2 cols2 rows2) := by
  intro j c u hc hu
  have h1 := hcx0.2 j c u hc hu
  rw [Nat.zero_add] at h1
  rcases L0 h1 with h2 | ⟨b, e2, cols2, rows2, rfl, h3, rfl, _⟩
  ·exact .inl h2
  ·refine .inr ⟨b, e2, cols2, rows2, rfl, h3, rfl, ?_⟩
   have hmem : ∀ (cs : List C) (ts : List T) (j0 j : Nat), cs[j]? = some (.own b) → ts[j]? = some (.sl rows2) → cols.getD (j0 + j) .s = .x e2 cols2 → (b, CQ e2 cols2 rows2) ∈ Ii j0 cols cs ts := by
    intro cs
    induction cs with
    | nil => intro ts j0 j h; simp at h
    | cons c cs ih =>
     intro ts j0 j h h' hcol
     cases ts with
     | nil => simp at h'
     | cons t ts =>
      cases j with
      | zero =>
       simp at h h'; subst h; subst h'
       rw [Nat.add_zero] at hcol
       simp only [Ii, hcol]
       exact List.mem_append_left _ (by simp)
      | succ j =>
       have := ih ts (j0 + 1) j (by simpa using h) (by simpa using h') (by rwa [show j0 + 1 + j = j0 + (j + 1) from by omega])
       cases c <;> first | (simp only [Ii]; exact this) | (cases t <;> simp only [Ii] <;> first | exact this | exact List.mem_append_right _ this)
   have := hmem cs ts 0 j hc hu (by rw [Nat.zero_add]; exact h3)
   rw [hrb] at this
   exact hpb hb _ this
 obtain ⟨hcsz, hcr⟩ := (show EL P w G (a.eval y) x from hs.opd hx).cells
 rw [hcs] at hcsz hcr
 have hve : (a.eval y).cells.size = e := by rw [hcsz, hlen]
 have hgn : ∀ c, c ∈ BI cs → ∃ (j e2 : Nat) (cols2 : List Ow) (rows2 : List (List T)), cs[j]? = some (.own c) ∧ cols.getD j .s = .x e2 cols2 ∧ st'.bx c = some (CQ e2 cols2 rows2) := by
  intro c hc
  obtain ⟨j, hj⟩ := List.mem_iff_getElem?.1 (Dt.1 hc)
  have hjt : j < ts.length := by rw [← hcx0.1]; exact Al hj
  rcases hown j _ ts[j] hj (by simp [hjt]) with ⟨v, h, _⟩ | ⟨b, e2, cols2, rows2, h1, h2, _, h4⟩
  ·cases h
  ·cases h1; exact ⟨j, e2, cols2, rows2, hj, h2, h4⟩
 have hs0 : s ∉ BI cs := fun hm => by
  obtain ⟨_, _, _, _, _, _, h⟩ := hgn s hm
  rw [hnew] at h; cases h
 obtain ⟨arr', r1, r2, r3⟩ := Nh (e := e) (arr := (Array.range (1 * e)).map (fun k => (if 1 * e = 0 then (#[] : Array Value) else z.cells)[k % (if 1 * e = 0 then (#[] : Array Value) else z.cells).size]!)) (v := a.eval y) (by simp) hve
 let w' := w.alloc (.cells arr' el)
 let G' : Gh := { S := G.S, loc := fun c => if c = s then some w.heap.size else G.loc c, hd := fun c => if c = s then .slice (some ⟨w.heap.size, 0, none⟩) 1 1 else G.hd c, more := fun c => if c = s then (fun γ => ∃ b, b ∈ BI cs ∧ G.has b γ) else G.more c }
 have hheap : ∀ γ, γ < w.heap.size → w'.heap[γ]? = w.heap[γ]? := fun γ hγ => by show (w.alloc _).heap[γ]? = _; rw [BV, if_neg (by omega)]
 have hatw : w'.heap[w.heap.size]? = some (.cells arr' el) := by show (w.alloc _).heap[_]? = _; rw [BV, if_pos rfl]
 have hsz : w'.heap.size = w.heap.size + 1 := by show (w.heap.push _).size = _; simp
 have hbx : ∀ d, AT st'.bx ((s, .dvec e cols [ts]) :: DC (BI cs)) d = if d = s then some (.dvec e cols [ts]) else if d ∈ BI cs then some .gone else st'.bx d := fun d => by
  simp only [AT]; split
  ·rfl
  ·exact Gf
 have hsome : ∀ c, (st'.bx c).isSome = true → c ≠ s := fun c hc e => by rw [e, hnew] at hc; cases hc
 have hasO : ∀ d γ, d ≠ s → (G'.has d γ ↔ G.has d γ) := fun d γ h => by unfold Gh.has; simp only [G', if_neg h]
 have hasS : ∀ γ, G'.has s γ → γ = w.heap.size ∨ ∃ b, b ∈ BI cs ∧ G.has b γ := fun γ h => by
  unfold Gh.has at h
  simp only [G', if_true] at h
  rcases h with h | h
  ·cases h; exact .inl rfl
  ·exact .inr h
 have hlt : ∀ b γ, b ∈ BI cs → G.has b γ → It X b γ ∧ γ < w.heap.size ∧ ¬ G.S γ := fun b γ hbm hγ => by
  obtain ⟨_, _, _, _, _, _, h⟩ := hgn b hbm
  exact hs.at_ok b _ γ h CP hγ
 have hcsj : ∀ (j : Nat) (c : C), cs[j]? = some c → CD P w G (Ah (a.eval y).cells j) c := hcr
 have key : BT P X G' ⟨st'.env, AT st'.bx ((s, .dvec e cols [ts]) :: DC (BI cs))⟩ a w' := by
  refine hs.frame2 (fun d hd => ?_) (fun _ h => h) (fun c hc => by simp only [G']; rw [if_neg (hsome c hc)]) (fun c hc => by simp only [G']; rw [if_neg (hsome c hc)]) (fun γ hγ => hheap γ (hs.S_lt γ hγ)) ?_ ?_ ?_ (fun γ hγ => by have := hs.S_lt γ hγ; omega) hs.S_src (hs.below.alloc hs.below.size _) (fun d hd => ?_)
  ·rw [hbx]; split
   ·rfl
   ·split
    ·rfl
    ·exact hd
  ·intro d kk hd
   rw [hbx] at hd
   split at hd
   ·rename_i e1; subst e1; cases hd
    refine .inr ⟨.inr ⟨w.heap.size, 1, arr', el, fun i0 j0 γ => i0 = 0 ∧ ∃ b, cs[j0]? = some (.own b) ∧ G.has b γ, by simp [G'], by simp [G'], hatw, by simp, r2, ?_, ?_, ?_, ?_, ?_⟩, fun c' hc' => by cases hc'⟩
    ·intro i0 row hi
     cases i0 with
     | zero => simp at hi; subst hi; rw [← hcx0.1, hlen]
     | succ i0 => simp at hi
    ·intro i0 row j0 t0 hi hj
     cases i0 with
     | succ i0 => simp at hi
     | zero =>
      simp at hi; subst hi
      have hj0 : j0 < cs.length := by rw [hcx0.1]; exact Al hj
      have hcj : cs[j0]? = some cs[j0] := by simp [hj0]
      rw [Nat.zero_mul, Nat.zero_add, r3 j0 (by omega)]
      have hR := hcsj j0 _ hcj
      rcases hown j0 _ t0 hcj hj with ⟨v, h1, h2, h3⟩ | ⟨b, e2, cols2, rows2, h1, h2, h3, h4⟩
      ·rw [h2, h3]
       rw [h1] at hR
       exact .s ((show Co w G.S _ v from hR).mono (fun γ hγ => hheap γ (hs.S_lt γ hγ)) fun _ h => h)
      ·rw [h2, h3]
       rw [h1] at hR hcj
       have hvv : Ah (a.eval y).cells j0 = G.hd b := hR.1
       rw [hvv]
       refine (Kl (hs.blk b _ h4)).mono (fun γ hγ => hheap γ ?_) (fun _ h => h) (fun γ hγ => ⟨rfl, b, hcj, hγ⟩)
       rcases hγ with h | h
       ·exact hs.S_lt γ h
       ·exact (hs.at_ok b _ γ h4 CP h).2.1
    ·rintro i0 j0 γ ⟨_, b, hcb, hγ⟩
     simp only [G', if_true]
     exact ⟨b, Dt.2 (lM hcb), hγ⟩
    ·rintro i0 j0 ⟨_, b, hcb, hγ⟩
     exact Nat.lt_irrefl _ (hlt b _ (Dt.2 (lM hcb)) hγ).2.1
    ·rintro i0 j0 i1 j1 γ ⟨q0, b, hcb, hγ⟩ ⟨q1, b', hcb', hγ'⟩
     refine ⟨q0.trans q1.symm, ?_⟩
     obtain ⟨_, _, _, _, _, _, k1⟩ := hgn b (Dt.2 (lM hcb))
     obtain ⟨_, _, _, _, _, _, k2⟩ := hgn b' (Dt.2 (lM hcb'))
     have := hs.at_inj b b' _ _ γ k1 k2 CP CP hγ hγ'
     subst this
     exact H0 hndp _ _ b hcb hcb'
   ·rename_i e1
    split at hd
    ·cases hd; exact .inr ⟨trivial, fun c' hc' => by cases hc'⟩
    ·exact .inl ⟨hd, by simp only [G', if_neg e1], fun γ hr hγ => hheap γ (hs.at_ok d kk γ hd hr hγ).2.1⟩
  ·intro d kk γ hd hr hγ
   rw [hbx] at hd
   split at hd
   ·rename_i e1; subst e1
    rcases hasS γ hγ with h | ⟨b, hbm, h⟩
    ·subst h
     exact ⟨.new hs.below.size, by omega, fun h => Nat.lt_irrefl _ (hs.S_lt _ h)⟩
    ·have := hlt b γ hbm h
     have hbl : AR b = false := by
      have := List.all_eq_true.1 hnl b hbm
      simpa using this
     exact ⟨.new (this.1.1 hbl), by omega, this.2.2⟩
   ·rename_i e1
    split at hd
    ·cases hd; cases hr
    ·have := hs.at_ok d kk γ hd hr ((hasO d γ e1).1 hγ)
     exact ⟨this.1, by omega, this.2.2⟩
  ·intro d d' kk kk' γ hd hd' hr hr' hγ hγ'
   rw [hbx] at hd hd'
   have cl : ∀ d kk, (if d = s then some (AO.dvec e cols [ts]) else if d ∈ BI cs then some .gone else st'.bx d) = some kk → kk.real = true → G'.has d γ → (d = s ∧ (γ = w.heap.size ∨ ∃ b, b ∈ BI cs ∧ G.has b γ)) ∨ (d ≠ s ∧ d ∉ BI cs ∧ st'.bx d = some kk ∧ G.has d γ) := by
    intro d kk hd hr hγ
    split at hd
    ·rename_i e1; subst e1; exact .inl ⟨rfl, hasS γ hγ⟩
    ·rename_i e1
     split at hd
     ·cases hd; cases hr
     ·rename_i e2'; exact .inr ⟨e1, e2', hd, (hasO d γ e1).1 hγ⟩
   have cross : ∀ d kk, d ∉ BI cs → st'.bx d = some kk → kk.real = true → G.has d γ → (γ = w.heap.size ∨ ∃ b, b ∈ BI cs ∧ G.has b γ) → False := by
    intro d kk hdm hd hr hγ h
    rcases h with h | ⟨b, hbm, h⟩
    ·have := (hs.at_ok d kk γ hd hr hγ).2.1; omega
    ·obtain ⟨_, _, _, _, _, _, k1⟩ := hgn b hbm
     exact hdm (hs.at_inj d b _ _ γ hd k1 hr CP hγ h ▸ hbm)
   rcases cl d kk hd hr hγ with ⟨q1, q2⟩ | ⟨q1, q2, q3, q4⟩ <;> rcases cl d' kk' hd' hr' hγ' with ⟨q1', q2'⟩ | ⟨q1', q2', q3', q4'⟩
   ·rw [q1, q1']
   ·exact (cross d' kk' q2' q3' hr' q4' q2).elim
   ·exact (cross d kk q2 q3 hr q4 q2').elim
   ·exact hs.at_inj d d' kk kk' γ q3 q3' hr hr' q4 q4'
  ·have e1 : d ≠ s := fun e' => by rw [e', hs.nl hn] at hd; cases hd
   refine ⟨?_, ?_, ?_⟩ <;> simp only [G', if_neg e1]
 refine ⟨.slice (some ⟨w.heap.size, 0, none⟩) 1 1, w', G', ?_, key, ?_⟩
 ·simp only [execOp, hop, hps]
  refine Ag (w1 := w') (a := .slice (some ⟨w.heap.size, 0, none⟩) 1 1) ?_ rfl
  have hpa : ((#[(0, y)] : Array (Nat × Operand)).map fun (i, x) => (i, a.eval x)) = #[(0, a.eval y)] := by simp
  unfold Bb at ht
  split at ht
  ·rename_i e' hu
   have : e' = el := by simpa using ht
   subst this
   rw [hpa]
   unfold Instr.buildSlice
   refine Ag (AN hu w) ?_
   refine Ag (Do he w) ?_
   rw [if_neg (by omega)]
   by_cases hne : 1 * e = 0
   ·rw [if_pos hne] at r1
    rw [if_pos hne]
    refine Ag (a := (#[] : Array Value)) (w1 := w) rfl ?_
    simp only [r1]
    rfl
   ·rw [if_neg hne] at r1
    rw [if_neg hne]
    refine Ag (Eo hz w) ?_
    refine Ag (a := z.cells) (w1 := w) rfl ?_
    simp only [r1]
    rfl
  ·cases ht
 ·rintro d ⟨⟩
  refine ⟨⟨by simp [G'], _, _, _, rfl⟩, fun b hb => ?_⟩
  have : b = s := by simpa [D.names, E.names, C.names] using hb
  subst this
  rw [hbx, if_pos rfl]; rfl
end run
end Go.Lift
namespace Go.Lift
open Go.RowKit
variable {P : Program} {X : EM} {ops : Array Oper}
section run
variable {dr : Bool} {Q : St → Prop} {r i : Nat} {st : St} {log : List (Nat × Bz)} {o : Oper} {gs : List (Operand × D)}
end run
end Go.Lift
namespace Go.Lift
open Go.RowKit
variable {P : Program} {X : EM}
theorem CB {α : Type} {c : Operand} {x y : Code} {Q : Exit → St → Prop} {st : St} {b : Bool} {e1 e2 : Option α} {v : α} (h : A6 b e1 e2 = some v) (ht : e1 = some v → W P X x Q st) (hf : e2 = some v → W P X y Q st) (hc : opd st.env c = some (bD b) := by exact rfl) : W P X (.cond c x y) Q st :=
 Pt hc (fun k => ht (OD k h)) (fun k => hf (OQ k h))
theorem DD {ops : Array Oper} {dr : Bool} {Q : St → Prop} {r i : Nat} {st : St} {log : List (Nat × Bz)} {α : Type} {b : Bool} {e1 e2 : Option α} {v : α} (t : Nat) (h : A6 b e1 e2 = some v) (hx : st.env t = some (bD b)) (h1 : e1 = some v → AV P X ops dr Q r i (St.put st (some t) (some (bD true))) log) (h2 : e2 = some v → AV P X ops dr Q r i (St.put st (some t) (some (bD false))) log) : AV P X ops dr Q r i st log :=
 Ny hx (fun k => h1 (OD k h)) (fun k => h2 (OQ k h))
theorem sn {V R : Type} {J : V → Option R} {r : R} {S : V → St} {s : St} {v : V} {el : List (Nat × D)} {bl : List (Nat × AO)} (l : List (Nat × Nat)) (h : J v = some r) (e : S v = mk el bl := by exact rfl) (h1 : (Qd s.env el, Qk (rn l) s.bx bl) = (Qg (rn l) el, Qa (rn l) bl) := by exact rfl) (h2 : ((Ex ((CO bl).map (rn l)) && Hz (rn l) (CO bl)) && (Jp (CO bl) el && Jz (CO bl) bl)) = true := by exact rfl) : ∃ v, J v = some r ∧ DY P X s (S v) :=
 ⟨v, h, e ▸ sm l el bl h1 h2⟩
theorem QY {y : Code} {id : Nat} {ops : Array Oper} {dr : Bool} {Q : Exit → St → Prop} {st : St} {n : Nat} (hm : P.follows .mixedOrders = true) (hn : ops.size = n)
  (h : AV P X ops dr (fun st' => W P X y Q st') n 0 st []) : W P X (.seq (.region id ops dr) y) Q st :=
 A7 (Ak hm hn h)
theorem CT {G : Prop} {α β : Type} {xs : List α} {i : Int} {f : α → Option β} {r : β} (h : (CC xs i).bind f = some r) (k : ∀ x, 0 ≤ i → xs[i.toNat]? = some x → f x = some r → G) : G := by
 obtain ⟨x, a, b, c⟩ := Mt h
 exact k x a b c
theorem De {G : Prop} {α β : Type} {x : Option α} {f : α → Option β} {r : β} (h : x.bind f = some r) (k : ∀ a, x = some a → f a = some r → G) : G := by
 obtain ⟨a, b, c⟩ := bind_some h
 exact k a b c
theorem Ff {G : Prop} {β : Type} {p : Prop} [Decidable p] {f : Unit → Option β} {r : β} (h : (DO p).bind f = some r) (k : p → f () = some r → G) : G := k (KS h).1 (KS h).2
section
variable {ops : Array Oper} {dr : Bool} {Q : St → Prop} {r i : Nat} {st : St} {log : List (Nat × Bz)} {gs : List (Operand × D)}
theorem qe {x : Operand} {d : D} {s : Nat} (h : (hd st.env ops i X.n, opd st.env x) = (some (.assign x, s, gs), some d)) (k : Q (Bz.upd ⟨gs ++ [(x, d)], [], some s, some d, [], []⟩ st)) : AV P X ops false Q (0 + 1) i st log :=
 qa h (Ac k)
def Mj (n : Nat) (ops : Array Oper) (i : Nat) (st : St) : Option Bz :=
 match (match OX ops i n with
  | some (_, s, t, want) => (match st.env t with
   | some (.e (.one (.pure (.val (.bool b))))) => (match b, want with
    | true, false => some (s, t, want)
    | false, true => some (s, t, want)
    | _, _ => none)
   | _ => none)
  | none => none) with
 | some (s, t, want) => some ⟨[(.tmp t, bD (!want))], [], some s, some uD, [], []⟩
 | none => match hd st.env ops i n with
  | some (.move x, s, gs) => (opd st.env x).map fun d => ⟨gs ++ [(x, d)], [], some s, some d, [], []⟩
  | _ => none
def Pf (n : Nat) (ops : Array Oper) : Nat → Nat → St → List (Nat × Bz) → Option (St × List (Nat × Bz))
 | 0, _, st, log => some (st, log)
 | k + 1, i, st, log => match Mj n ops i st with
  | none => none
  | some l => Pf n ops k (i + 1) (Bz.upd l st) ((i, l) :: log)
theorem Nk {l : Bz} (h : Mj X.n ops i st = some l) (next : Nx P X ops dr Q r i st log l) : AV P X ops dr Q (r + 1) i st log := by
 unfold Mj at h
 split at h
 ·rename_i s t want hh
  split at hh
  ·rename_i j s' t' want' ha
   split at hh
   ·rename_i b hb
    split at hh
    ·cases hh; cases h; exact qn (want := false) (by rw [ha, hb]; rfl) next
    ·cases hh; cases h; exact qn (want := true) (by rw [ha, hb]; rfl) next
    ·cases hh
   ·cases hh
  ·cases hh
 ·split at h
  ·rename_i x s gs' hh
   cases hd' : opd st.env x with
   | none => rw [hd'] at h; cases h
   | some d =>
    rw [hd'] at h
    cases h
    exact qm (by rw [hh, hd']) next
  ·cases h
theorem qw (k : Nat) {st' : St} {log' : List (Nat × Bz)} (h : Pf X.n ops k i st log = some (st', log')) (next : AV P X ops dr Q r (i + k) st' log') : AV P X ops dr Q (r + k) i st log := by
 induction k generalizing i st log with
 | zero => cases h; exact next
 | succ k ih =>
  rw [Pf] at h
  split at h
  ·cases h
  ·rename_i l hl
   exact Nk hl (ih h (by rwa [Nat.add_assoc, Nat.add_comm 1]))
end
theorem cw {f n : Nat} {fn : Func} {c : Code} {args : List D} {rv : List (Nat × List (List T))} {res : D} {rs : List ResultVar} (hf : P.funcs[f]? = some fn)
  (h : ∀ (w0 : World) (S0 : Nat → Prop), W P ⟨w0, S0, n, G0 S0⟩ c (fun e st => match e with | .normal | .ret => M2 P rs st rv res | _ => False) (O2 args))
  (hb : fn.body = some c := by exact rfl) (hn : fn.ntmps = n := by exact rfl) (hrs : fn.results.toList = rs := by exact rfl) (hl : args.length ≤ n := by exact Jd rfl) (hn9 : n ≤ 90000 := by exact Jd rfl) (hpub : args.all L8 = true := by exact rfl) : Au P f args rv res :=
 Je hf hb hn hrs hl hn9 hpub h
theorem tm {st : St} {t : Nat} {x : E} (h : st.env t = some (.e x) := by exact rfl) : P0 P st [.tmp t] [x] := ⟨.tmp _ _ h, trivial⟩
end Go.Lift
namespace Go.Lift
def An (n : Int) : List T := [.val (.int .i64 n)]
def EC (n : Int) : List T := [.val (.int .u8 n)]
def Jg (n : Int) : List T := [.val (.int .u16 n)]
abbrev tB (b : Bool) : T := .val (.bool b)
def eB (b : Bool) : List T := [.val (.bool b)]
def Ec {α : Type} (f : α → List T) (xs : List α) : List T := [.sl (xs.map f)]
theorem Qx : Qo eB := ⟨by intro x y h; simpa [eB] using h⟩
theorem Qi {α : Type} {f : α → List T} (h : Qo f) : Qo (Ec f) := ⟨by intro x y hx; simp only [Ec, List.cons.injEq, T.sl.injEq, and_true] at hx; exact Lz h.inj _ _ hx⟩
structure DK where
 fe : Int
 fd : Int
 fi : Int
 fo : Bool
 fu : Int
 fv : Int
def Dw (x : DK) : List T := [.val (.int .u8 x.fe), .val (.int .u8 x.fd), .val (.int .u8 x.fi), .val (.bool x.fo), .val (.int .u16 x.fu), .val (.int .u16 x.fv)]
structure A4 where
 fa : List Int
 fk : List Int
 fm : List Int
 fp : List DK
def Hd (x : A4) : List T := [.sl (x.fa.map EC), .sl (x.fk.map EC), .sl (x.fm.map EC), .sl (x.fp.map Dw)]
structure Az where
 fh : List Int
 fc : List Int
 fg : List Int
def Ha (x : Az) : List T := [.sl (x.fh.map EC), .sl (x.fc.map EC), .sl (x.fg.map EC)]
structure Ab where
 fe : Int
 fd : Int
 fi : Int
 fo : Bool
 ff : List (List Bool)
 fj : List (List Bool)
def Ap (x : Ab) : List T := [.val (.int .i64 x.fe), .val (.int .i64 x.fd), .val (.int .i64 x.fi), .val (.bool x.fo), .sl (x.ff.map (Ec eB)), .sl (x.fj.map (Ec eB))]
structure Aa where
 fa : List Int
 fk : List Int
 fm : List Int
 fb : List Ab
structure Af where
 fh : List Int
 fc : List Int
 fg : List Int
def DM (x : Af) : List T := [.sl (x.fh.map An), .sl (x.fc.map An), .sl (x.fg.map EC)]
structure Ae where
 fq : Int
 fr : Int
 ft : Int
def AD (x : Ae) : List T := [.val (.int .i64 x.fq), .val (.int .i64 x.fr), .val (.int .i64 x.ft)]
open IntKind renaming wrap → wI
def B3 (_ : Nat) (p0 : List Int) (p1 : Int) : Option Int :=
 A6 ((decide (p1 < (p0.length : Int))))
  ((CC p0 p1).bind fun v2 =>
  some ((wI .i64 v2)))
  (some 0)
def Bh (_ : Nat) (p0 : Ab) : Option Bool :=
 BS (fun (v1 : Bool) =>
  some v1)
 fun j1 =>
 A6 ((p0.fe == 3))
  (j1 true)
  (j1 (p0.fe == 4))
def Ba (N : Nat) (p1 : Int) (p2 : Int) (p3 : Bool) (v1 : (List (List Bool)) × Int) (j4 : ((List Bool)) → Option ((List (List Bool)))) : Nat → ((List Bool) × Int) → Option ((List (List Bool)))
 | 0, _ => none
 | n4 + 1, v4 =>
  A6 ((decide (v4.2 < p1)))
   (BS (fun (v7 : (List Bool)) =>
    Ba N p1 p2 p3 v1 j4 n4 (v7, (wI .i64 (v4.2 + 1))))
   fun j7 =>
   A6 p3
    (A6 ((v1.2 == v4.2))
     ((DO (v4.1.length + (([true] : List Bool)).length ≤ Dr)).bind fun _ =>
     j7 (v4.1 ++ (([true] : List Bool))))
     ((DO (0 ≤ (wI .i64 ((wI .i64 (3 * v1.2)) + v4.2)))).bind fun _ =>
     (DO (v4.1.length + (([((Int.tmod ((E8 .u16 p2 ((wI .i64 ((wI .i64 (3 * v1.2)) + v4.2))))) 2) == 0)] : List Bool)).length ≤ Dr)).bind fun _ =>
     j7 (v4.1 ++ (([((Int.tmod ((E8 .u16 p2 ((wI .i64 ((wI .i64 (3 * v1.2)) + v4.2))))) 2) == 0)] : List Bool)))))
    ((DO (0 ≤ (wI .i64 ((wI .i64 (3 * v1.2)) + v4.2)))).bind fun _ =>
    (DO (v4.1.length + (([((Int.tmod ((E8 .u16 p2 ((wI .i64 ((wI .i64 (3 * v1.2)) + v4.2))))) 2) == 0)] : List Bool)).length ≤ Dr)).bind fun _ =>
    j7 (v4.1 ++ (([((Int.tmod ((E8 .u16 p2 ((wI .i64 ((wI .i64 (3 * v1.2)) + v4.2))))) 2) == 0)] : List Bool)))))
   (j4 v4.1)
def A8 (N : Nat) (p0 : Int) (p1 : Int) (p2 : Int) (p3 : Bool) (j1 : ((List (List Bool))) → Option ((List (List Bool)))) : Nat → ((List (List Bool)) × Int) → Option ((List (List Bool)))
 | 0, _ => none
 | n1 + 1, v1 =>
  A6 ((decide (v1.2 < p0)))
   (Ba N p1 p2 p3 v1 (fun (v5 : (List Bool)) =>
    (DO (v1.1.length + (([v5] : List (List Bool))).length ≤ Dr)).bind fun _ =>
    A8 N p0 p1 p2 p3 j1 n1 (v1.1 ++ (([v5] : List (List Bool))), (wI .i64 (v1.2 + 1)))) N (([] : List Bool), 0))
   (j1 v1.1)
def B2 (N : Nat) (p0 : Int) (p1 : Int) (p2 : Int) (p3 : Bool) : Option ((List (List Bool))) :=
 A8 N p0 p1 p2 p3 (fun (v2 : (List (List Bool))) =>
  some v2) N (([] : List (List Bool)), 0)
def Bk (N : Nat) (p0 : A4) (j4 : ((List Int) × (List Int) × (List Int)) → Option (Aa × Bool)) : Nat → ((List Int) × (List Int) × (List Int) × Int) → Option (Aa × Bool)
 | 0, _ => none
 | n4 + 1, v4 =>
  A6 ((decide (v4.2.2.2 < (p0.fa.length : Int))))
   ((CC p0.fa v4.2.2.2).bind fun v7 =>
   (DO (v4.1.length + (([(wI .i64 (1 + (wI .i64 ((Int.tmod v7 3)))))] : List Int)).length ≤ Dr)).bind fun _ =>
   (B3 N p0.fk v4.2.2.2).bind fun v9 =>
   (DO ((wI .i64 (1 + (wI .i64 ((Int.tmod v7 3))))) ≠ 0)).bind fun _ =>
   (DO (v4.2.1.length + (([(Int.tmod v9 ((wI .i64 (1 + (wI .i64 ((Int.tmod v7 3)))))))] : List Int)).length ≤ Dr)).bind fun _ =>
   (B3 N p0.fm v4.2.2.2).bind fun v12 =>
   (DO ((wI .i64 (1 + (wI .i64 ((Int.tmod v7 3))))) ≠ 0)).bind fun _ =>
   (DO (v4.2.2.1.length + (([(Int.tmod v12 ((wI .i64 (1 + (wI .i64 ((Int.tmod v7 3)))))))] : List Int)).length ≤ Dr)).bind fun _ =>
   Bk N p0 j4 n4 (v4.1 ++ (([(wI .i64 (1 + (wI .i64 ((Int.tmod v7 3)))))] : List Int)), v4.2.1 ++ (([(Int.tmod v9 ((wI .i64 (1 + (wI .i64 ((Int.tmod v7 3)))))))] : List Int)), v4.2.2.1 ++ (([(Int.tmod v12 ((wI .i64 (1 + (wI .i64 ((Int.tmod v7 3)))))))] : List Int)), (wI .i64 (v4.2.2.2 + 1))))
   (j4 (v4.1, v4.2.1, v4.2.2.1))
def AI (N : Nat) (p0 : A4) (v5 : (List Int) × (List Int) × (List Int)) (j15 : ((List Ab)) → Option (Aa × Bool)) : Nat → ((List Ab) × Int) → Option (Aa × Bool)
 | 0, _ => none
 | n15 + 1, v15 =>
  BS (fun (v17 : Bool) =>
   A6 v17
    ((CC p0.fp v15.2).bind fun v20 =>
    (DO ((v5.1.length : Int) ≠ 0)).bind fun _ =>
    (DO ((v5.1.length : Int) ≠ 0)).bind fun _ =>
    BS (fun (v23 : Bool) =>
     (CC v5.1 ((Int.tmod ((wI .i64 v20.fd)) ((v5.1.length : Int))))).bind fun v26 =>
     (CC v5.1 ((Int.tmod ((wI .i64 v20.fi)) ((v5.1.length : Int))))).bind fun v27 =>
     (B2 N v26 v27 v20.fu false).bind fun v28 =>
     BS (fun (v29 : (List (List Bool))) =>
      (DO (v15.1.length + (([(Ab.mk ((wI .i64 (1 + (wI .i64 ((Int.tmod v20.fe 4)))))) ((Int.tmod ((wI .i64 v20.fd)) ((v5.1.length : Int)))) ((Int.tmod ((wI .i64 v20.fi)) ((v5.1.length : Int)))) v23 v28 v29)] : List Ab)).length ≤ Dr)).bind fun _ =>
      AI N p0 v5 j15 n15 (v15.1 ++ (([(Ab.mk ((wI .i64 (1 + (wI .i64 ((Int.tmod v20.fe 4)))))) ((Int.tmod ((wI .i64 v20.fd)) ((v5.1.length : Int)))) ((Int.tmod ((wI .i64 v20.fi)) ((v5.1.length : Int)))) v23 v28 v29)] : List Ab)), (wI .i64 (v15.2 + 1))))
     fun j29 =>
     A6 (((wI .i64 (1 + (wI .i64 ((Int.tmod v20.fe 4))))) == 4))
      ((CC v5.1 ((Int.tmod ((wI .i64 v20.fd)) ((v5.1.length : Int))))).bind fun v31 =>
      (CC v5.1 ((Int.tmod ((wI .i64 v20.fd)) ((v5.1.length : Int))))).bind fun v32 =>
      (B2 N v31 v32 v20.fv true).bind fun v33 =>
      j29 v33)
      (j29 ([] : List (List Bool))))
    fun j23 =>
    A6 v20.fo
     ((Bh N ((Ab.mk ((wI .i64 (1 + (wI .i64 ((Int.tmod v20.fe 4)))))) ((Int.tmod ((wI .i64 v20.fd)) ((v5.1.length : Int)))) ((Int.tmod ((wI .i64 v20.fi)) ((v5.1.length : Int)))) false (([] : List (List Bool))) (([] : List (List Bool)))))).bind fun v25 =>
     j23 (!v25))
     (j23 false))
    (j15 v15.1))
  fun j17 =>
  A6 ((decide (v15.2 < (p0.fp.length : Int))))
   (j17 (decide (0 < (v5.1.length : Int))))
   (j17 false)
def Ck (N : Nat) (p0 : A4) : Option (Aa × Bool) :=
 BS (fun (v1 : Bool) =>
  A6 v1
   (some ((Aa.mk (([] : List Int)) (([] : List Int)) (([] : List Int)) (([] : List Ab))), false))
   (Bk N p0 (fun (v5 : (List Int) × (List Int) × (List Int)) =>
    AI N p0 v5 (fun (v16 : (List Ab)) =>
     some ((Aa.mk v5.1 v5.2.1 v5.2.2 v16), true)) N (([] : List Ab), 0)) N (([] : List Int), ([] : List Int), ([] : List Int), 0)))
 fun j1 =>
 A6 ((decide (3 < (p0.fa.length : Int))))
  (j1 true)
  (j1 (decide (4 < (p0.fp.length : Int))))
def Bl (_ : Nat) (p0 : Bool) : Option Aa :=
 some ((Aa.mk (([2, 2] : List Int)) (([0, 0] : List Int)) (([1, 1] : List Int)) (([(Ab.mk 1 0 1 p0 (([([true, true] : List Bool), ([false, true] : List Bool)] : List (List Bool))) (([] : List (List Bool))))] : List Ab))))
def B6 (_ : Nat) (p0 : Int) (p1 : Int) : Option Bool :=
 BS (fun (v1 : Bool) =>
  some v1)
 fun j1 =>
 A6 ((decide (0 ≤ p0)))
  (j1 (decide (p0 < p1)))
  (j1 false)
def DG (_ : Nat) (p0 : Int) (p1 : Bool) : Option Bool :=
 BS (fun (v1 : Bool) =>
  some v1)
 fun j1 =>
 A6 ((p0 == 1))
  (j1 true)
  (A6 ((p0 == 2))
   (j1 true)
   (A6 ((p0 == 3))
    (j1 (!p1))
    (A6 ((p0 == 4))
     (j1 (!p1))
     (j1 false))))
def B1 (_ : Nat) (p0 : List Bool) (p1 : Int) : Option Bool :=
 some (((p0.length : Int) != p1))
def AC (N : Nat) (p0 : List (List Bool)) (p1 : (List Bool) → Option Bool) (j1 : Unit → Option Int) : Nat → Int → Option Int
 | 0, _ => none
 | n1 + 1, v1 =>
  A6 ((decide (v1 < (p0.length : Int))))
   ((CC p0 v1).bind fun v4 =>
   (p1 v4).bind fun v5 =>
   A6 v5
    (some v1)
    (AC N p0 p1 j1 n1 (wI .i64 (v1 + 1))))
   (j1 ())
def BH (N : Nat) (p0 : List (List Bool)) (p1 : (List Bool) → Option Bool) : Option Int :=
 AC N p0 p1 (fun (_ : Unit) =>
  some ((-1))) N 0
def Bp (N : Nat) (p0 : List (List Bool)) (p1 : (List Bool) → Option Bool) : Option Bool :=
 (BH N p0 p1).bind fun v1 =>
 some ((decide (0 ≤ v1)))
def CG (N : Nat) (p0 : List (List Bool)) (p1 : Int) (p2 : Int) : Option Bool :=
 BS (fun (v1 : Bool) =>
  some v1)
 fun j1 =>
 A6 (((p0.length : Int) == p1))
  ((Bp N p0 ((fun (x : List Bool) => B1 N x p2))).bind fun v3 =>
  j1 (!v3))
  (j1 false)
def Bu (N : Nat) (p1 : Ab) (j19 : Unit → Option Int) : Nat → Int → Option Int
 | 0, _ => none
 | n19 + 1, v19 =>
  A6 ((decide (v19 < (p1.fj.length : Int))))
   ((CC p1.fj v19).bind fun v22 =>
   (CC v22 v19).bind fun v23 =>
   A6 ((!v23))
    (some 1)
    (Bu N p1 j19 n19 (wI .i64 (v19 + 1))))
   (j19 ())
def Dl (N : Nat) (p0 : Aa) (p1 : Ab) : Option Int :=
 (DG N p1.fe p1.fo).bind fun v1 =>
 A6 ((!v1))
  (some 1)
  (BS (fun (v3 : Bool) =>
   A6 v3
    (some 4)
    ((CC p0.fa p1.fd).bind fun v8 =>
    BS (fun (v9 : Bool) =>
     A6 v9
      (some 6)
      (Bu N p1 (fun (_ : Unit) =>
       some 0) N 0))
    fun j9 =>
    (CC p0.fa p1.fi).bind fun v10 =>
    (CG N p1.ff v8 v10).bind fun v11 =>
    A6 ((!v11))
     (j9 true)
     (A6 ((p1.fe == 4))
      ((CG N p1.fj v8 v8).bind fun v14 =>
      A6 ((!v14))
       (j9 true)
       (A6 ((!((p1.fe == 4))))
        (j9 (decide (0 < (p1.fj.length : Int))))
        (j9 false)))
      (A6 ((!((p1.fe == 4))))
       (j9 (decide (0 < (p1.fj.length : Int))))
       (j9 false)))))
  fun j3 =>
  (B6 N p1.fd ((p0.fa.length : Int))).bind fun v4 =>
  A6 ((!v4))
   (j3 true)
   ((B6 N p1.fi ((p0.fa.length : Int))).bind fun v6 =>
   j3 (!v6)))
def A3 (N : Nat) (p0 : Aa) (j7 : Unit → Option Int) : Nat → Int → Option Int
 | 0, _ => none
 | n7 + 1, v7 =>
  A6 ((decide (v7 < (p0.fa.length : Int))))
   ((CC p0.fa v7).bind fun v10 =>
   BS (fun (v11 : Bool) =>
    A6 v11
     (some 7)
     (A3 N p0 j7 n7 (wI .i64 (v7 + 1))))
   fun j11 =>
   A6 ((decide (v10 < 1)))
    (j11 true)
    (A6 ((decide (6 < v10)))
     (j11 true)
     ((CC p0.fk v7).bind fun v14 =>
     (B6 N v14 v10).bind fun v15 =>
     A6 ((!v15))
      (j11 true)
      ((CC p0.fm v7).bind fun v17 =>
      (B6 N v17 v10).bind fun v18 =>
      j11 (!v18)))))
   (j7 ())
def AU (N : Nat) (p0 : Aa) (j20 : Unit → Option Int) : Nat → Int → Option Int
 | 0, _ => none
 | n20 + 1, v20 =>
  A6 ((decide (v20 < (p0.fb.length : Int))))
   ((CC p0.fb v20).bind fun v23 =>
   (Dl N p0 v23).bind fun v24 =>
   A6 ((v24 != 0))
    (some v24)
    (AU N p0 j20 n20 (wI .i64 (v20 + 1))))
   (j20 ())
def Ca (N : Nat) (p0 : Aa) : Option Int :=
 BS (fun (v1 : Bool) =>
  A6 v1
   (some 3)
   (BS (fun (v4 : Bool) =>
    A6 v4
     (some 6)
     (A3 N p0 (fun (_ : Unit) =>
      AU N p0 (fun (_ : Unit) =>
       some 0) N 0) N 0))
   fun j4 =>
   A6 (((p0.fk.length : Int) != (p0.fa.length : Int)))
    (j4 true)
    (j4 ((p0.fm.length : Int) != (p0.fa.length : Int)))))
 fun j1 =>
 A6 ((decide (6 < (p0.fa.length : Int))))
  (j1 true)
  (j1 (decide (12 < (p0.fb.length : Int))))
def Db (_ : Nat) (p0 : Ab) : Option Bool :=
 BS (fun (v1 : Bool) =>
  some v1)
 fun j1 =>
 A6 ((p0.fe == 3))
  (j1 true)
  (j1 (p0.fe == 4))
def Cz (_ : Nat) (p0 : Af) (p1 : Int) : Option Int :=
 (CC p0.fh p1).bind fun v1 =>
 (DO (0 ≤ v1)).bind fun _ =>
 BS (fun (v3 : Int) =>
  some v3)
 fun j3 =>
 (CC p0.fc p1).bind fun v4 =>
 A6 ((decide (0 ≤ v4)))
  ((CC p0.fc p1).bind fun v6 =>
  (DO (0 ≤ v6)).bind fun _ =>
  j3 (Lg .u8 ((C5 .u8 1 v1)) ((C5 .u8 1 v6))))
  (j3 (C5 .u8 1 v1))
def B4 (N : Nat) (p0 : Aa) (p1 : Af) (j7 : Unit → Option Int) : Nat → Int → Option Int
 | 0, _ => none
 | n7 + 1, v7 =>
  A6 ((decide (v7 < (p0.fa.length : Int))))
   ((CC p0.fa v7).bind fun v10 =>
   BS (fun (v11 : Bool) =>
    A6 v11
     (some 7)
     ((CC p1.fh v7).bind fun v20 =>
     (CC p1.fc v7).bind fun v21 =>
     A6 ((v20 == v21))
      (some 1)
      (B4 N p0 p1 j7 n7 (wI .i64 (v7 + 1)))))
   fun j11 =>
   (CC p1.fh v7).bind fun v12 =>
   A6 ((decide (v12 < 0)))
    (j11 true)
    ((CC p1.fh v7).bind fun v14 =>
    A6 ((decide (v10 ≤ v14)))
     (j11 true)
     ((CC p1.fc v7).bind fun v16 =>
     A6 ((decide (v16 < (-1))))
      (j11 true)
      ((CC p1.fc v7).bind fun v18 =>
      j11 (decide (v10 ≤ v18))))))
   (j7 ())
def BP (N : Nat) (p0 : Aa) (p1 : Af) (j23 : Unit → Option Int) : Nat → Int → Option Int
 | 0, _ => none
 | n23 + 1, v23 =>
  A6 ((decide (v23 < (p0.fb.length : Int))))
   ((CC p0.fb v23).bind fun v26 =>
   BS (fun (v27 : Int × Int) =>
    BS (fun (v33 : Bool) =>
     A6 v33
      (some 1)
      (BP N p0 p1 j23 n23 (wI .i64 (v23 + 1))))
    fun j33 =>
    (CC p1.fg v23).bind fun v34 =>
    A6 (((C7 .u8 v27.1 v34) != 0))
     (j33 true)
     ((CC p1.fg v23).bind fun v36 =>
     j33 ((C7 .u8 v36 v27.2) != 0)))
   fun j27 =>
   (Db N v26).bind fun v28 =>
   A6 v28
    ((Cz N p1 v26.fd).bind fun v30 =>
    (CC p0.fa v26.fd).bind fun v31 =>
    (DO (0 ≤ v31)).bind fun _ =>
    j27 (v30, (wI .u8 ((C5 .u8 1 v31) - 1))))
    (j27 (0, 0)))
   (j23 ())
def Dv (N : Nat) (p0 : Aa) (p1 : Af) : Option Int :=
 (Ca N p0).bind fun v1 =>
 A6 ((v1 != 0))
  (some v1)
  (BS (fun (v3 : Bool) =>
   A6 v3
    (some 6)
    (B4 N p0 p1 (fun (_ : Unit) =>
     BP N p0 p1 (fun (_ : Unit) =>
      some 0) N 0) N 0))
  fun j3 =>
  A6 (((p1.fh.length : Int) != (p0.fa.length : Int)))
   (j3 true)
   (A6 (((p1.fc.length : Int) != (p0.fa.length : Int)))
    (j3 true)
    (j3 ((p1.fg.length : Int) != (p0.fb.length : Int)))))
def AZ (N : Nat) (v1 : (List Ae) × Int) (v4 : Ab) (v6 : Int) (v11 : (List Ae) × Int) (v17 : List Bool) (j18 : ((List Ae) × Bool) → Option ((List Ae))) : Nat → ((List Ae) × Bool × Int) → Option ((List Ae))
 | 0, _ => none
 | n18 + 1, v18 =>
  A6 ((decide (v18.2.2 < (v17.length : Int))))
   (BS (fun (v21 : (List Ae) × Bool) =>
    AZ N v1 v4 v6 v11 v17 j18 n18 (v21.1, v21.2, (wI .i64 (v18.2.2 + 1))))
   fun j21 =>
   (CC v17 v18.2.2).bind fun v22 =>
   (DO (0 ≤ v18.2.2)).bind fun _ =>
   A6 (((E7 .u8 ((E8 .u8 v6 v18.2.2)) 1) == 0))
    (j21 (v18.1, v18.2.1))
    (BS (fun (v25 : Bool) =>
     BS (fun (v27 : Bool) =>
      A6 v27
       ((DO (v18.1.length + (([(Ae.mk v1.2 v11.2 v18.2.2)] : List Ae)).length ≤ Dr)).bind fun _ =>
       j21 (v18.1 ++ (([(Ae.mk v1.2 v11.2 v18.2.2)] : List Ae)), v25))
       (j21 (v18.1, v25)))
     fun j27 =>
     A6 ((!v22))
      (j27 (!v4.fo))
      (j27 false))
    fun j25 =>
    A6 v18.2.1
     (j25 true)
     (j25 v22)))
   (j18 (v18.1, v18.2.1))
def A9 (N : Nat) (v1 : (List Ae) × Int) (v4 : Ab) (v6 : Int) (v7 : Int) (j11 : ((List Ae)) → Option ((List Ae))) : Nat → ((List Ae) × Int) → Option ((List Ae))
 | 0, _ => none
 | n11 + 1, v11 =>
  A6 ((decide (v11.2 < (v4.ff.length : Int))))
   (BS (fun (v14 : (List Ae)) =>
    A9 N v1 v4 v6 v7 j11 n11 (v14, (wI .i64 (v11.2 + 1))))
   fun j14 =>
   (DO (0 ≤ v11.2)).bind fun _ =>
   A6 (((E7 .u8 ((E8 .u8 v7 v11.2)) 1) == 0))
    (j14 v11.1)
    ((CC v4.ff v11.2).bind fun v17 =>
    AZ N v1 v4 v6 v11 v17 (fun (v19 : (List Ae) × Bool) =>
     BS (fun (v31 : Bool) =>
      A6 v31
       ((DO (v19.1.length + (([(Ae.mk v1.2 v11.2 ((-1)))] : List Ae)).length ≤ Dr)).bind fun _ =>
       j14 (v19.1 ++ (([(Ae.mk v1.2 v11.2 ((-1)))] : List Ae))))
       (j14 v19.1))
     fun j31 =>
     A6 v4.fo
      (j31 (!v19.2))
      (j31 false)) N (v11.1, false, 0)))
   (j11 v11.1)
def BE (N : Nat) (p0 : Aa) (p1 : Af) (j1 : ((List Ae)) → Option ((List Ae))) : Nat → ((List Ae) × Int) → Option ((List Ae))
 | 0, _ => none
 | n1 + 1, v1 =>
  A6 ((decide (v1.2 < (p0.fb.length : Int))))
   ((CC p0.fb v1.2).bind fun v4 =>
   (Cz N p1 v4.fd).bind fun v5 =>
   (Cz N p1 v4.fi).bind fun v6 =>
   BS (fun (v7 : Int) =>
    A9 N v1 v4 v6 v7 (fun (v12 : (List Ae)) =>
     BE N p0 p1 j1 n1 (v12, (wI .i64 (v1.2 + 1)))) N (v1.1, 0))
   fun j7 =>
   (Db N v4).bind fun v8 =>
   A6 v8
    ((CC p1.fg v1.2).bind fun v10 =>
    j7 v10)
    (j7 v5))
   (j1 v1.1)
def Cu (N : Nat) (p0 : Aa) (p1 : Af) : Option ((List Ae)) :=
 BE N p0 p1 (fun (v2 : (List Ae)) =>
  some v2) N (([] : List Ae), 0)
def Cc (N : Nat) (p0 : Aa) (p1 : Af) : Option ((List Ae) × Int) :=
 (Dv N p0 p1).bind fun v1 =>
 A6 ((v1 != 0))
  (some (([] : List Ae), v1))
  ((Cu N p0 p1).bind fun v3 =>
  some (v3, 0))
def C1 (N : Nat) (p0 : Aa) (p1 : Af) : Option (Bool × Int) :=
 (Cc N p0 p1).bind fun v1 =>
 BS (fun (v2 : Bool) =>
  some (v2, v1.2))
 fun j2 =>
 A6 ((v1.2 == 0))
  (j2 ((v1.1.length : Int) == 0))
  (j2 false)
def Bt (_ : Nat) (p0 : List Int) : Option ((List Int)) :=
 (DO ((([] : List Int)).length + p0.length ≤ Dr)).bind fun _ =>
 some ((([] : List Int)) ++ p0)
def Bg (_ : Nat) (p0 : List Int) : Option ((List Int)) :=
 (DO ((([] : List Int)).length + p0.length ≤ Dr)).bind fun _ =>
 some ((([] : List Int)) ++ p0)
def BR (N : Nat) (p1 : Af) (j3 : ((List Int)) → Option ((List Af) × Int)) : Nat → ((List Int) × Int) → Option ((List Af) × Int)
 | 0, _ => none
 | n3 + 1, v3 =>
  A6 ((decide (v3.2 < (p1.fc.length : Int))))
   (BS (fun (v6 : (List Int)) =>
    BR N p1 j3 n3 (v6, (wI .i64 (v3.2 + 1))))
   fun j6 =>
   (CC p1.fc v3.2).bind fun v7 =>
   A6 ((decide (0 ≤ v7)))
    ((DO (v3.1.length + (([v3.2] : List Int)).length ≤ Dr)).bind fun _ =>
    j6 (v3.1 ++ (([v3.2] : List Int))))
    (j6 v3.1))
   (j3 v3.1)
def Bo (N : Nat) (v4 : (List Int)) (v11 : (List Af) × Int) (j17 : ((List Int)) → Option ((List Af) × Int)) : Nat → ((List Int) × Int) → Option ((List Af) × Int)
 | 0, _ => none
 | n17 + 1, v17 =>
  A6 ((decide (v17.2 < (v4.length : Int))))
   (BS (fun (v20 : (List Int)) =>
    Bo N v4 v11 j17 n17 (v20, (wI .i64 (v17.2 + 1))))
   fun j20 =>
   (CC v4 v17.2).bind fun v21 =>
   (DO (0 ≤ v17.2)).bind fun _ =>
   A6 (((E7 .i64 ((E8 .i64 v11.2 v17.2)) 1) == 1))
    ((CC v17.1 v21).bind fun _ =>
    j20 (v17.1.set ((v21).toNat) ((-1))))
    (j20 v17.1))
   (j17 v17.1)
def Bq (N : Nat) (p1 : Af) (v4 : (List Int)) (j11 : ((List Af)) → Option ((List Af) × Int)) : Nat → ((List Af) × Int) → Option ((List Af) × Int)
 | 0, _ => none
 | n11 + 1, v11 =>
  A6 ((decide (v11.2 < (C5 .i64 1 ((v4.length : Int))))))
   ((Bt N p1.fh).bind fun v14 =>
   (Bt N p1.fc).bind fun v15 =>
   (Bg N p1.fg).bind fun v16 =>
   Bo N v4 v11 (fun (v18 : (List Int)) =>
    (DO (v11.1.length + (([(Af.mk v14 v18 v16)] : List Af)).length ≤ Dr)).bind fun _ =>
    Bq N p1 v4 j11 n11 (v11.1 ++ (([(Af.mk v14 v18 v16)] : List Af)), (wI .i64 (v11.2 + 1)))) N (v15, 0))
   (j11 v11.1)
def DI (N : Nat) (p0 : Aa) (p1 : Af) : Option ((List Af) × Int) :=
 (Dv N p0 p1).bind fun v1 =>
 A6 ((v1 != 0))
  (some (([] : List Af), v1))
  (BR N p1 (fun (v4 : (List Int)) =>
   (DO (0 ≤ (v4.length : Int))).bind fun _ =>
   Bq N p1 v4 (fun (v12 : (List Af)) =>
    some (v12, 0)) N (([] : List Af), 0)) N (([] : List Int), 0))
def Cl (N : Nat) (p0 : Aa) (v1 : (List Af) × Int) (j3 : Unit → Option (Af × Ae × Int)) : Nat → Int → Option (Af × Ae × Int)
 | 0, _ => none
 | n3 + 1, v3 =>
  A6 ((decide (v3 < (v1.1.length : Int))))
   ((CC v1.1 v3).bind fun v6 =>
   (Cu N p0 v6).bind fun v7 =>
   A6 ((decide (0 < (v7.length : Int))))
    ((CC v7 0).bind fun v9 =>
    some (v6, v9, 0))
    (Cl N p0 v1 j3 n3 (wI .i64 (v3 + 1))))
   (j3 ())
def DA (N : Nat) (p0 : Aa) (p1 : Af) : Option (Af × Ae × Int) :=
 (DI N p0 p1).bind fun v1 =>
 A6 ((v1.2 != 0))
  (some ((Af.mk (([] : List Int)) (([] : List Int)) (([] : List Int))), (Ae.mk 0 0 0), v1.2))
  (Cl N p0 v1 (fun (_ : Unit) =>
   some ((Af.mk (([] : List Int)) (([] : List Int)) (([] : List Int))), (Ae.mk 0 0 0), 15)) N 0)
def Cs (N : Nat) (p0 : Aa) (p1 : Af) : Option (Bool × Int) :=
 (DA N p0 p1).bind fun v1 =>
 A6 ((v1.2.2 == 0))
  (some (false, 0))
  (A6 ((v1.2.2 == 15))
   (some (true, 0))
   (some (false, v1.2.2)))
def BN (N : Nat) (p0 : List Ae) (p1 : List Ae) (j2 : Unit → Option Bool) : Nat → Int → Option Bool
 | 0, _ => none
 | n2 + 1, v2 =>
  A6 ((decide (v2 < (p0.length : Int))))
   ((CC p0 v2).bind fun v5 =>
   (CC p1 v2).bind fun v6 =>
   A6 ((!((v5.fq == v6.fq) && ((v5.fr == v6.fr) && ((v5.ft == v6.ft) && true)))))
    (some false)
    (BN N p0 p1 j2 n2 (wI .i64 (v2 + 1))))
   (j2 ())
def B7 (N : Nat) (p0 : List Ae) (p1 : List Ae) : Option Bool :=
 A6 (((p0.length : Int) != (p1.length : Int)))
  (some false)
  (BN N p0 p1 (fun (_ : Unit) =>
   some true) N 0)
def Cr (N : Nat) (p0 : List Int) (p1 : List Int) (j1 : Unit → Option Int) : Nat → Int → Option Int
 | 0, _ => none
 | n1 + 1, v1 =>
  BS (fun (v3 : Bool) =>
   A6 v3
    ((CC p0 v1).bind fun v6 =>
    (CC p1 v1).bind fun v7 =>
    A6 ((decide (v6 < v7)))
     (some ((-1)))
     ((CC p0 v1).bind fun v9 =>
     (CC p1 v1).bind fun v10 =>
     A6 ((decide (v10 < v9)))
      (some 1)
      (Cr N p0 p1 j1 n1 (wI .i64 (v1 + 1)))))
    (j1 ()))
  fun j3 =>
  A6 ((decide (v1 < (p0.length : Int))))
   (j3 (decide (v1 < (p1.length : Int))))
   (j3 false)
def Cn (N : Nat) (p0 : List Int) (p1 : List Int) : Option Int :=
 Cr N p0 p1 (fun (_ : Unit) =>
  A6 ((decide ((p0.length : Int) < (p1.length : Int))))
   (some ((-1)))
   (A6 ((decide ((p1.length : Int) < (p0.length : Int))))
    (some 1)
    (some 0))) N 0
def B8 (N : Nat) (p0 : List Int) (j1 : ((List Int)) → Option ((List Int))) : Nat → ((List Int) × Int) → Option ((List Int))
 | 0, _ => none
 | n1 + 1, v1 =>
  A6 ((decide (v1.2 < (p0.length : Int))))
   ((CC p0 v1.2).bind fun v4 =>
   (DO (v1.1.length + (([(wI .i64 v4)] : List Int)).length ≤ Dr)).bind fun _ =>
   B8 N p0 j1 n1 (v1.1 ++ (([(wI .i64 v4)] : List Int)), (wI .i64 (v1.2 + 1))))
   (j1 v1.1)
def Cp (N : Nat) (p0 : List Int) : Option ((List Int)) :=
 B8 N p0 (fun (v2 : (List Int)) =>
  some v2) N (([] : List Int), 0)
def C9 (N : Nat) (p0 : Af) (p1 : Af) : Option Int :=
 (Cn N p0.fh p1.fh).bind fun v1 =>
 A6 ((v1 != 0))
  (some v1)
  ((Cn N p0.fc p1.fc).bind fun v3 =>
  A6 ((v3 != 0))
   (some v3)
   ((Cp N p0.fg).bind fun v5 =>
   (Cp N p1.fg).bind fun v6 =>
   (Cn N v5 v6).bind fun v7 =>
   some v7))
def Dq (N : Nat) (p0 : Af) (p1 : Af) : Option Bool :=
 (C9 N p0 p1).bind fun v1 =>
 some ((v1 == 0))
def Cg (N : Nat) : Option Bool :=
 (Bl N false).bind fun v1 =>
 (Cc N v1 ((Af.mk (([0, 0] : List Int)) (([1, (-1)] : List Int)) (([0] : List Int))))).bind fun v2 =>
 (Bl N false).bind fun v3 =>
 (Cc N v3 ((Af.mk (([0, 0] : List Int)) (([1, 1] : List Int)) (([0] : List Int))))).bind fun v4 =>
 (Bl N true).bind fun v5 =>
 (C1 N v5 ((Af.mk (([0, 0] : List Int)) (([1, 1] : List Int)) (([0] : List Int))))).bind fun v6 =>
 (Bl N true).bind fun v7 =>
 (Cs N v7 ((Af.mk (([0, 0] : List Int)) (([1, 1] : List Int)) (([0] : List Int))))).bind fun v8 =>
 (Bl N true).bind fun v9 =>
 (DA N v9 ((Af.mk (([0, 0] : List Int)) (([1, 1] : List Int)) (([0] : List Int))))).bind fun v10 =>
 BS (fun (v11 : Bool) =>
  some v11)
 fun j11 =>
 A6 ((v2.2 == 0))
  (A6 ((v4.2 == 0))
   (A6 ((v6.2 == 0))
    (A6 ((v8.2 == 0))
     (A6 ((v10.2.2 == 0))
      ((B7 N v2.1 (([(Ae.mk 0 1 0)] : List Ae))).bind fun v17 =>
      A6 v17
       ((B7 N v4.1 (([(Ae.mk 0 1 0)] : List Ae))).bind fun v19 =>
       A6 v19
        (A6 v6.1
         (A6 ((!v8.1))
          ((Dq N v10.1 ((Af.mk (([0, 0] : List Int)) (([1, (-1)] : List Int)) (([0] : List Int))))).bind fun v23 =>
          A6 v23
           (j11 ((v10.2.1.fq == 0) && ((v10.2.1.fr == 1) && ((v10.2.1.ft == (-1)) && true))))
           (j11 false))
          (j11 false))
         (j11 false))
        (j11 false))
       (j11 false))
      (j11 false))
     (j11 false))
    (j11 false))
   (j11 false))
  (j11 false)
def BF (_ : Nat) (p0 : List Int) (p1 : Int) : Option Int :=
 A6 ((decide (p1 < (p0.length : Int))))
  ((CC p0 p1).bind fun v2 =>
  some ((wI .i64 v2)))
  (some 0)
def B0 (_ : Nat) (p0 : Af) (p1 : Int) : Option Int :=
 (CC p0.fh p1).bind fun v1 =>
 (DO (0 ≤ v1)).bind fun _ =>
 BS (fun (v3 : Int) =>
  some v3)
 fun j3 =>
 (CC p0.fc p1).bind fun v4 =>
 A6 ((decide (0 ≤ v4)))
  ((CC p0.fc p1).bind fun v6 =>
  (DO (0 ≤ v6)).bind fun _ =>
  j3 (Lg .u8 ((C5 .u8 1 v1)) ((C5 .u8 1 v6))))
  (j3 (C5 .u8 1 v1))
def Bj (N : Nat) (p0 : Aa) (p1 : Az) (j1 : ((List Int) × (List Int)) → Option Af) : Nat → ((List Int) × (List Int) × Int) → Option Af
 | 0, _ => none
 | n1 + 1, v1 =>
  A6 ((decide (v1.2.2 < (p0.fa.length : Int))))
   ((CC p0.fa v1.2.2).bind fun v4 =>
   (BF N p1.fh v1.2.2).bind fun v5 =>
   (DO (v4 ≠ 0)).bind fun _ =>
   BS (fun (v7 : Int) =>
    (DO (v1.1.length + (([(Int.tmod v5 v4)] : List Int)).length ≤ Dr)).bind fun _ =>
    (DO (v1.2.1.length + (([v7] : List Int)).length ≤ Dr)).bind fun _ =>
    Bj N p0 p1 j1 n1 (v1.1 ++ (([(Int.tmod v5 v4)] : List Int)), v1.2.1 ++ (([v7] : List Int)), (wI .i64 (v1.2.2 + 1))))
   fun j7 =>
   (BF N p1.fc v1.2.2).bind fun v8 =>
   (DO (v4 ≠ 0)).bind fun _ =>
   A6 ((decide (0 < (Int.tmod v8 v4))))
    ((DO (v4 ≠ 0)).bind fun _ =>
    j7 (Int.tmod ((wI .i64 ((Int.tmod v5 v4) + (Int.tmod v8 v4)))) v4))
    (j7 (-1)))
   (j1 (v1.1, v1.2.1))
def AA (N : Nat) (p0 : Aa) (p1 : Az) (v2 : (List Int) × (List Int)) (j14 : ((List Int)) → Option Af) : Nat → ((List Int) × Int) → Option Af
 | 0, _ => none
 | n14 + 1, v14 =>
  A6 ((decide (v14.2 < (p0.fb.length : Int))))
   ((CC p0.fb v14.2).bind fun v17 =>
   BS (fun (v18 : Int) =>
    (DO (v14.1.length + (([v18] : List Int)).length ≤ Dr)).bind fun _ =>
    AA N p0 p1 v2 j14 n14 (v14.1 ++ (([v18] : List Int)), (wI .i64 (v14.2 + 1))))
   fun j18 =>
   (Bh N v17).bind fun v19 =>
   A6 v19
    ((CC p0.fa v17.fd).bind fun v21 =>
    (DO (0 ≤ v21)).bind fun _ =>
    (B0 N ((Af.mk v2.1 v2.2 v14.1)) v17.fd).bind fun v23 =>
    (BF N p1.fg v14.2).bind fun v24 =>
    j18 (Lg .u8 v23 ((E7 .u8 ((wI .u8 v24)) ((wI .u8 ((C5 .u8 1 v21) - 1)))))))
    (j18 0))
   (j14 v14.1)
def BW (N : Nat) (p0 : Aa) (p1 : Az) : Option Af :=
 Bj N p0 p1 (fun (v2 : (List Int) × (List Int)) =>
  AA N p0 p1 v2 (fun (v15 : (List Int)) =>
   some ((Af.mk v2.1 v2.2 v15))) N (([] : List Int), 0)) N (([] : List Int), ([] : List Int), 0)
def Be (N : Nat) (p0 : List (List Bool)) (p1 : Int) (p2 : Int) (j2 : Unit → Option Bool) : Nat → Int → Option Bool
 | 0, _ => none
 | n2 + 1, v2 =>
  A6 ((decide (v2 < p1)))
   ((CC p0 v2).bind fun v5 =>
   A6 (((v5.length : Int) != p2))
    (some false)
    (Be N p0 p1 p2 j2 n2 (wI .i64 (v2 + 1))))
   (j2 ())
def BL (N : Nat) (p0 : List (List Bool)) (p1 : Int) (p2 : Int) : Option Bool :=
 A6 (((p0.length : Int) != p1))
  (some false)
  (Be N p0 p1 p2 (fun (_ : Unit) =>
   some true) N 0)
def A1 (N : Nat) (p1 : Ab) (j22 : Unit → Option Int) : Nat → Int → Option Int
 | 0, _ => none
 | n22 + 1, v22 =>
  A6 ((decide (v22 < (p1.fj.length : Int))))
   ((CC p1.fj v22).bind fun v25 =>
   (CC v25 v22).bind fun v26 =>
   A6 ((!v26))
    (some 1)
    (A1 N p1 j22 n22 (wI .i64 (v22 + 1))))
   (j22 ())
def Ce (N : Nat) (p0 : Aa) (p1 : Ab) : Option Int :=
 BS (fun (v1 : Bool) =>
  A6 v1
   (some 1)
   (BS (fun (v7 : Bool) =>
    A6 v7
     (some 4)
     ((CC p0.fa p1.fd).bind fun v12 =>
     (CC p0.fa p1.fi).bind fun v13 =>
     (BL N p1.ff v12 v13).bind fun v14 =>
     A6 ((!v14))
      (some 6)
      (A6 ((p1.fe != 4))
       (A6 (((p1.fj.length : Int) != 0))
        (some 6)
        (some 0))
       ((CC p0.fa p1.fd).bind fun v18 =>
       (CC p0.fa p1.fd).bind fun v19 =>
       (BL N p1.fj v18 v19).bind fun v20 =>
       A6 ((!v20))
        (some 6)
        (A1 N p1 (fun (_ : Unit) =>
         some 0) N 0)))))
   fun j7 =>
   A6 ((decide (p1.fd < 0)))
    (j7 true)
    (A6 ((decide ((p0.fa.length : Int) ≤ p1.fd)))
     (j7 true)
     (A6 ((decide (p1.fi < 0)))
      (j7 true)
      (j7 (decide ((p0.fa.length : Int) ≤ p1.fi)))))))
 fun j1 =>
 A6 ((decide (p1.fe < 1)))
  (j1 true)
  (A6 ((decide (4 < p1.fe)))
   (j1 true)
   (A6 p1.fo
    ((Bh N p1).bind fun v5 =>
    j1 v5)
    (j1 false)))
def Ay (N : Nat) (p0 : Aa) (j7 : Unit → Option Int) : Nat → Int → Option Int
 | 0, _ => none
 | n7 + 1, v7 =>
  A6 ((decide (v7 < (p0.fa.length : Int))))
   ((CC p0.fa v7).bind fun v10 =>
   BS (fun (v11 : Bool) =>
    A6 v11
     (some 7)
     (Ay N p0 j7 n7 (wI .i64 (v7 + 1))))
   fun j11 =>
   A6 ((decide (v10 < 1)))
    (j11 true)
    (A6 ((decide (6 < v10)))
     (j11 true)
     ((CC p0.fk v7).bind fun v14 =>
     A6 ((decide (v14 < 0)))
      (j11 true)
      ((CC p0.fk v7).bind fun v16 =>
      A6 ((decide (v10 ≤ v16)))
       (j11 true)
       ((CC p0.fm v7).bind fun v18 =>
       A6 ((decide (v18 < 0)))
        (j11 true)
        ((CC p0.fm v7).bind fun v20 =>
        j11 (decide (v10 ≤ v20))))))))
   (j7 ())
def Ax (N : Nat) (p0 : Aa) (j22 : Unit → Option Int) : Nat → Int → Option Int
 | 0, _ => none
 | n22 + 1, v22 =>
  A6 ((decide (v22 < (p0.fb.length : Int))))
   ((CC p0.fb v22).bind fun v25 =>
   (Ce N p0 v25).bind fun v26 =>
   A6 ((v26 != 0))
    (some v26)
    (Ax N p0 j22 n22 (wI .i64 (v22 + 1))))
   (j22 ())
def AX (N : Nat) (p0 : Aa) : Option Int :=
 BS (fun (v1 : Bool) =>
  A6 v1
   (some 3)
   (BS (fun (v4 : Bool) =>
    A6 v4
     (some 6)
     (Ay N p0 (fun (_ : Unit) =>
      Ax N p0 (fun (_ : Unit) =>
       some 0) N 0) N 0))
   fun j4 =>
   A6 (((p0.fk.length : Int) != (p0.fa.length : Int)))
    (j4 true)
    (j4 ((p0.fm.length : Int) != (p0.fa.length : Int)))))
 fun j1 =>
 A6 ((decide (6 < (p0.fa.length : Int))))
  (j1 true)
  (j1 (decide (12 < (p0.fb.length : Int))))
def A5 (N : Nat) (p0 : List (List Bool)) (j1 : ((List (List Bool))) → Option ((List (List Bool)))) : Nat → ((List (List Bool)) × Int) → Option ((List (List Bool)))
 | 0, _ => none
 | n1 + 1, v1 =>
  A6 ((decide (v1.2 < (p0.length : Int))))
   ((CC p0 v1.2).bind fun v4 =>
   (DO ((([] : List Bool)).length + v4.length ≤ Dr)).bind fun _ =>
   (DO (v1.1.length + (([(([] : List Bool)) ++ v4] : List (List Bool))).length ≤ Dr)).bind fun _ =>
   A5 N p0 j1 n1 (v1.1 ++ (([(([] : List Bool)) ++ v4] : List (List Bool))), (wI .i64 (v1.2 + 1))))
   (j1 v1.1)
def Bs (N : Nat) (p0 : List (List Bool)) : Option ((List (List Bool))) :=
 A5 N p0 (fun (v2 : (List (List Bool))) =>
  some v2) N (([] : List (List Bool)), 0)
def Ci (N : Nat) (p0 : Ab) (p1 : Int) (p2 : Int) : Option Ab :=
 (Bs N p0.ff).bind fun v1 =>
 (Bs N p0.fj).bind fun v2 =>
 some ((Ab.mk p0.fe p1 p2 p0.fo v1 v2))
def AY (N : Nat) (p0 : Aa) (j6 : ((List Ab)) → Option (Aa × Int)) : Nat → ((List Ab) × Int) → Option (Aa × Int)
 | 0, _ => none
 | n6 + 1, v6 =>
  A6 ((decide (v6.2 < (p0.fb.length : Int))))
   ((CC p0.fb v6.2).bind fun v9 =>
   (CC p0.fb v6.2).bind fun v10 =>
   (CC p0.fb v6.2).bind fun v11 =>
   (Ci N v9 v10.fd v11.fi).bind fun v12 =>
   (DO (v6.1.length + (([v12] : List Ab)).length ≤ Dr)).bind fun _ =>
   AY N p0 j6 n6 (v6.1 ++ (([v12] : List Ab)), (wI .i64 (v6.2 + 1))))
   (j6 v6.1)
def BM (N : Nat) (p0 : Aa) (p1 : List Int) (p2 : List Int) : Option (Aa × Int) :=
 (AX N p0).bind fun v1 =>
 A6 ((v1 != 0))
  (some ((Aa.mk (([] : List Int)) (([] : List Int)) (([] : List Int)) (([] : List Ab))), v1))
  ((DO ((([] : List Int)).length + p0.fa.length ≤ Dr)).bind fun _ =>
  (DO ((([] : List Int)).length + p1.length ≤ Dr)).bind fun _ =>
  (DO ((([] : List Int)).length + p2.length ≤ Dr)).bind fun _ =>
  AY N p0 (fun (v7 : (List Ab)) =>
   (AX N ((Aa.mk ((([] : List Int)) ++ p0.fa) ((([] : List Int)) ++ p1) ((([] : List Int)) ++ p2) v7))).bind fun v14 =>
   A6 ((v14 != 0))
    (some ((Aa.mk (([] : List Int)) (([] : List Int)) (([] : List Int)) (([] : List Ab))), v14))
    (some ((Aa.mk ((([] : List Int)) ++ p0.fa) ((([] : List Int)) ++ p1) ((([] : List Int)) ++ p2) v7), 0))) N (([] : List Ab), 0))
def AP (N : Nat) (p2 : List Int) (v12 : (List Ab) × Int) (v17 : (List Ab) × Int) (v21 : List Bool) (j22 : ((List Ab)) → Option Bool) : Nat → ((List Ab) × Int) → Option Bool
 | 0, _ => none
 | n22 + 1, v22 =>
  A6 ((decide (v22.2 < (v21.length : Int))))
   (BS (fun (v25 : (List Ab)) =>
    AP N p2 v12 v17 v21 j22 n22 (v25, (wI .i64 (v22.2 + 1))))
   fun j25 =>
   (CC v22.1 v12.2).bind fun v26 =>
   (CC v26.ff v17.2).bind fun v27 =>
   (CC v22.1 v12.2).bind fun _ =>
   (CC v26.ff v17.2).bind fun _ =>
   (CC v22.1 v12.2).bind fun _ =>
   (CC v26.ff v17.2).bind fun _ =>
   (CC v27 v22.2).bind fun v32 =>
   A6 v32
    ((CC v27 v22.2).bind fun _ =>
    j25 (v22.1.set ((v12.2).toNat) ((Ab.mk v26.fe v26.fd v26.fi v26.fo (v26.ff.set ((v17.2).toNat) (v27.set ((v22.2).toNat) true)) v26.fj))))
    ((CC p2 v12.2).bind fun v35 =>
    (DO (0 ≤ (wI .i64 ((wI .i64 (3 * v17.2)) + v22.2)))).bind fun _ =>
    (CC v27 v22.2).bind fun _ =>
    j25 (v22.1.set ((v12.2).toNat) ((Ab.mk v26.fe v26.fd v26.fi v26.fo (v26.ff.set ((v17.2).toNat) (v27.set ((v22.2).toNat) (((E7 .u16 ((E8 .u16 v35 ((wI .i64 ((wI .i64 (3 * v17.2)) + v22.2))))) 1) == 1)))) v26.fj)))))
   (j22 v22.1)
def AE (N : Nat) (p2 : List Int) (v12 : (List Ab) × Int) (v16 : Ab) (j17 : ((List Ab)) → Option Bool) : Nat → ((List Ab) × Int) → Option Bool
 | 0, _ => none
 | n17 + 1, v17 =>
  A6 ((decide (v17.2 < (v16.ff.length : Int))))
   ((CC v17.1 v12.2).bind fun v20 =>
   (CC v20.ff v17.2).bind fun v21 =>
   AP N p2 v12 v17 v21 (fun (v23 : (List Ab)) =>
    AE N p2 v12 v16 j17 n17 (v23, (wI .i64 (v17.2 + 1)))) N (v17.1, 0))
   (j17 v17.1)
def AQ (N : Nat) (p2 : List Int) (v10 : Aa × Int) (j12 : ((List Ab)) → Option Bool) : Nat → ((List Ab) × Int) → Option Bool
 | 0, _ => none
 | n12 + 1, v12 =>
  A6 ((decide (v12.2 < (v10.1.fb.length : Int))))
   (A6 ((decide ((p2.length : Int) ≤ v12.2)))
    (j12 v12.1)
    ((CC v12.1 v12.2).bind fun v16 =>
    AE N p2 v12 v16 (fun (v18 : (List Ab)) =>
     AQ N p2 v10 j12 n12 (v18, (wI .i64 (v12.2 + 1)))) N (v12.1, 0)))
   (j12 v12.1)
def As (N : Nat) (v7 : Af) (v8 : Bool × Int) (v9 : Bool × Int) (v10 : Aa × Int) (v11 : Af) (v13 : (List Ab)) (j38 : Unit → Option Bool) : Nat → Int → Option Bool
 | 0, _ => none
 | n38 + 1, v38 =>
  A6 ((decide (v38 < ((([v7, v11] : List Af)).length : Int))))
   ((CC (([v7, v11] : List Af)) v38).bind fun v41 =>
   (C1 N ((Aa.mk v10.1.fa v10.1.fk v10.1.fm v13)) v41).bind fun v42 =>
   (Cs N ((Aa.mk v10.1.fa v10.1.fk v10.1.fm v13)) v41).bind fun v43 =>
   BS (fun (v44 : Bool) =>
    A6 v44
     (some false)
     (As N v7 v8 v9 v10 v11 v13 j38 n38 (wI .i64 (v38 + 1))))
   fun j44 =>
   A6 ((v42.2 != 0))
    (j44 true)
    (A6 ((v43.2 != 0))
     (j44 true)
     (A6 v8.1
      (A6 ((!v42.1))
       (j44 true)
       (A6 v9.1
        (j44 (!v43.1))
        (j44 false)))
      (A6 v9.1
       (j44 (!v43.1))
       (j44 false)))))
   (j38 ())
def BX (N : Nat) (p0 : A4) (p1 : Az) (p2 : List Int) : Option Bool :=
 (Ck N p0).bind fun v1 =>
 BS (fun (v2 : Bool) =>
  A6 v2
   ((Cg N).bind fun v6 =>
   some v6)
   ((BW N v1.1 p1).bind fun v7 =>
   (C1 N v1.1 v7).bind fun v8 =>
   (Cs N v1.1 v7).bind fun v9 =>
   (BM N v1.1 v1.1.fk v1.1.fm).bind fun v10 =>
   (BW N v1.1 ((Az.mk p1.fh p1.fc (([] : List Int))))).bind fun v11 =>
   AQ N p2 v10 (fun (v13 : (List Ab)) =>
    As N v7 v8 v9 v10 v11 v13 (fun (_ : Unit) =>
     BS (fun (v52 : Bool) =>
      some v52)
     fun j52 =>
     A6 ((v8.2 == 0))
      (j52 (v9.2 == 0))
      (j52 false)) N 0) N (v10.1.fb, 0)))
 fun j2 =>
 (Cg N).bind fun v3 =>
 A6 ((!v3))
  (j2 true)
  (j2 (!v1.2))
def HB {α : Type} (w : α → Prop) (xs : List α) : Prop := ∀ x, x ∈ xs → w x
def GF (n : Int) : Prop := (Lit.int .u8 n).wf = true
def LW (n : Int) : Prop := (Lit.int .u16 n).wf = true
def Eg (x : DK) : Prop := GF x.fe ∧ GF x.fd ∧ GF x.fi ∧ (fun _ => True) x.fo ∧ LW x.fu ∧ LW x.fv ∧ True
def CJ (x : A4) : Prop := (HB GF) x.fa ∧ (HB GF) x.fk ∧ (HB GF) x.fm ∧ (HB Eg) x.fp ∧ True
def Cj (x : Az) : Prop := (HB GF) x.fh ∧ (HB GF) x.fc ∧ (HB GF) x.fg ∧ True
open Go.RowKit
open Go.Proofs
abbrev Hw (x : DK) : List C := [.pure (.val (.int .u8 x.fe)), .pure (.val (.int .u8 x.fd)), .pure (.val (.int .u8 x.fi)), .pure (.val (.bool x.fo)), .pure (.val (.int .u16 x.fu)), .pure (.val (.int .u16 x.fv))]
abbrev Br (x : A4) : List C := [sC (x.fa.map EC), sC (x.fk.map EC), sC (x.fm.map EC), sC (x.fp.map Dw)]
abbrev BJ (x : Az) : List C := [sC (x.fh.map EC), sC (x.fc.map EC), sC (x.fg.map EC)]
abbrev Bn (x : Ab) : List C := [iC x.fe, iC x.fd, iC x.fi, .pure (.val (.bool x.fo)), sC (x.ff.map (Ec eB)), sC (x.fj.map (Ec eB))]
abbrev Am (x : Aa) : List C := [sC (x.fa.map An), sC (x.fk.map An), sC (x.fm.map An), sC (x.fb.map Ap)]
abbrev AW (x : Af) : List C := [sC (x.fh.map An), sC (x.fc.map An), sC (x.fg.map EC)]
abbrev G7 (x : Ae) : List C := [iC x.fq, iC x.fr, iC x.ft]
theorem Aw : Try.prog.follows .mixedOrders = true := by kernel_rfl
theorem wq {X : EM} {y : Code} {id : Nat} {ops : Array Oper} {dr : Bool} {Q : Exit → St → Prop} {st : St} {n : Nat} (hn : ops.size = n) (h : AV Try.prog X ops dr (fun st' => W Try.prog X y Q st') n 0 st []) : W Try.prog X (.seq (.region id ops dr) y) Q st := QY Aw hn h
theorem wp {X : EM} {y z : Code} {id : Nat} {ops : Array Oper} {dr : Bool} {Q : Exit → St → Prop} {st : St} {n : Nat} (hn : ops.size = n) (h : AV Try.prog X ops dr (fun st' => W Try.prog X y (Jk (W Try.prog X z Q) Q) st') n 0 st []) : W Try.prog X (.seq (.seq (.region id ops dr) y) z) Q st := A7 (QY Aw hn h)
theorem I4 : CH Try.prog 22 false = true := by kernel_rfl
theorem Py : CH Try.prog 23 false = true := by kernel_rfl
theorem Qt : CH Try.prog 25 true = true := by kernel_rfl
theorem QD : CH Try.prog 27 true = true := by kernel_rfl
theorem Bx : CH Try.prog 28 false = true := by kernel_rfl
theorem Fp : CH Try.prog 29 false = true := by kernel_rfl
theorem Dc : CH Try.prog 3 false = true := by kernel_rfl
theorem Ei : CH Try.prog 31 true = true := by kernel_rfl
theorem KN : CH Try.prog 35 false = true := by kernel_rfl
theorem Dm : CH Try.prog 37 true = true := by kernel_rfl
theorem Np : CH Try.prog 4 false = true := by kernel_rfl
theorem Pz : CH Try.prog 5 false = true := by kernel_rfl
theorem Ll : CH Try.prog 52 true = true := by kernel_rfl
theorem FE : CH Try.prog 59 false = true := by kernel_rfl
theorem GN : CH Try.prog 61 true = true := by kernel_rfl
theorem J2 : CH Try.prog 65 false = true := by kernel_rfl
theorem Pj : CH Try.prog 66 false = true := by kernel_rfl
theorem Qy : CH Try.prog 77 true = true := by kernel_rfl
theorem NN : CH Try.prog 80 false = true := by kernel_rfl
theorem Ie : Eh Try.prog 3 8 = true := by kernel_rfl
theorem PV : Eh Try.prog 37 72 = true := by kernel_rfl
theorem NY : Eh Try.prog 4 1 = true := by kernel_rfl
theorem Oy : Eh Try.prog 52 24 = true := by kernel_rfl
theorem OR : Eh Try.prog 61 80 = true := by kernel_rfl
theorem OO : Eh Try.prog 65 24 = true := by kernel_rfl
theorem OI : Eh Try.prog 80 1 = true := by kernel_rfl
theorem J5 : By Try.prog 25 0 0 = true := by kernel_rfl
theorem Ob : By Try.prog 25 1 1 = true := by kernel_rfl
theorem N6 : By Try.prog 25 2 2 = true := by kernel_rfl
theorem J3 : By Try.prog 25 3 3 = true := by kernel_rfl
theorem Lq : By Try.prog 27 0 0 = true := by kernel_rfl
theorem LP : By Try.prog 27 1 1 = true := by kernel_rfl
theorem Oq : By Try.prog 27 2 2 = true := by kernel_rfl
theorem Bi : By Try.prog 31 0 0 = true := by kernel_rfl
theorem Fg : By Try.prog 31 1 1 = true := by kernel_rfl
theorem Fh : By Try.prog 31 2 2 = true := by kernel_rfl
theorem BU : By Try.prog 31 3 3 = true := by kernel_rfl
theorem D1 : By Try.prog 37 0 0 = true := by kernel_rfl
theorem C8 : By Try.prog 37 1 1 = true := by kernel_rfl
theorem EF : By Try.prog 37 2 2 = true := by kernel_rfl
theorem D0 : By Try.prog 61 0 0 = true := by kernel_rfl
theorem CS : By Try.prog 61 1 1 = true := by kernel_rfl
theorem Fd : By Try.prog 61 2 2 = true := by kernel_rfl
theorem FK : By Try.prog 61 3 3 = true := by kernel_rfl
theorem En : By Try.prog 61 4 4 = true := by kernel_rfl
theorem Ea : By Try.prog 61 5 5 = true := by kernel_rfl
theorem N3 : By Try.prog 77 0 0 = true := by kernel_rfl
theorem Ns : By Try.prog 77 1 1 = true := by kernel_rfl
theorem Oo : By Try.prog 77 2 2 = true := by kernel_rfl
theorem NX : By Try.prog 77 3 3 = true := by kernel_rfl
theorem Of : By Try.prog 77 4 4 = true := by kernel_rfl
theorem N5 : By Try.prog 77 5 5 = true := by kernel_rfl
theorem Qz : AS Try.prog 11 = true := by kernel_rfl
theorem P6 : AS Try.prog 12 = true := by kernel_rfl
theorem PJ : AS Try.prog 13 = true := by kernel_rfl
theorem Pd : AS Try.prog 14 = true := by kernel_rfl
theorem OU : AS Try.prog 15 = true := by kernel_rfl
theorem PU : AS Try.prog 17 = true := by kernel_rfl
theorem QS : AS Try.prog 18 = true := by kernel_rfl
theorem Pn : AS Try.prog 19 = true := by kernel_rfl
theorem Qe : AS Try.prog 20 = true := by kernel_rfl
theorem QT : AS Try.prog 25 = true := by kernel_rfl
theorem QP : AS Try.prog 26 = true := by kernel_rfl
theorem PN : AS Try.prog 30 = true := by kernel_rfl
theorem Qu : AS Try.prog 34 = true := by kernel_rfl
theorem P5 : AS Try.prog 37 = true := by kernel_rfl
theorem Ps : AS Try.prog 38 = true := by kernel_rfl
theorem PH : AS Try.prog 39 = true := by kernel_rfl
theorem M7 : AS Try.prog 40 = true := by kernel_rfl
theorem Pi : AS Try.prog 41 = true := by kernel_rfl
theorem Qv : AS Try.prog 42 = true := by kernel_rfl
theorem PS : AS Try.prog 43 = true := by kernel_rfl
theorem P1 : AS Try.prog 45 = true := by kernel_rfl
theorem Qr : AS Try.prog 46 = true := by kernel_rfl
theorem PT : AS Try.prog 50 = true := by kernel_rfl
theorem QG : AS Try.prog 51 = true := by kernel_rfl
theorem QL : AS Try.prog 52 = true := by kernel_rfl
theorem Qh : AS Try.prog 53 = true := by kernel_rfl
theorem Pp : AS Try.prog 54 = true := by kernel_rfl
theorem Pg : AS Try.prog 61 = true := by kernel_rfl
theorem PQ : AS Try.prog 62 = true := by kernel_rfl
theorem Qq : AS Try.prog 64 = true := by kernel_rfl
theorem PM : AS Try.prog 65 = true := by kernel_rfl
theorem N4 : AS Try.prog 66 = true := by kernel_rfl
theorem QK : AS Try.prog 67 = true := by kernel_rfl
theorem P4 : AS Try.prog 72 = true := by kernel_rfl
theorem QH : AS Try.prog 73 = true := by kernel_rfl
theorem PG : AS Try.prog 74 = true := by kernel_rfl
theorem QW : AS Try.prog 79 = true := by kernel_rfl
theorem QJ : AS Try.prog 80 = true := by kernel_rfl
theorem QV : AS Try.prog 81 = true := by kernel_rfl
theorem O7 : Li Try.prog 3 .i64 = true := by kernel_rfl
theorem QQ : Li Try.prog 80 .u8 = true := by kernel_rfl
theorem Qw : Fk Try.prog 27 = some [(0, 1), (1, 1), (2, 1)] := by kernel_rfl
theorem MU : Fk Try.prog 31 = some [(0, 1), (1, 1), (2, 1), (3, 1)] := by kernel_rfl
theorem M1 : Fk Try.prog 37 = some [(0, 1), (1, 1), (2, 1)] := by kernel_rfl
theorem LU : Fk Try.prog 52 = some [(0, 1), (1, 1), (2, 1)] := by kernel_rfl
theorem Px : Fk Try.prog 61 = some [(0, 1), (1, 1), (2, 1), (3, 1), (4, 1), (5, 1)] := by kernel_rfl
theorem OH : Mm Try.prog 52 = some [0, 0, 0] := by kernel_rfl
theorem Ip : Bb Try.prog 22 5 = true := by kernel_rfl
theorem M4 : Bb Try.prog 23 77 = true := by kernel_rfl
theorem Ar : Bb Try.prog 28 3 = true := by kernel_rfl
theorem CI : Bb Try.prog 29 61 = true := by kernel_rfl
theorem EZ : Bb Try.prog 35 80 = true := by kernel_rfl
theorem EN : Bb Try.prog 39 52 = true := by kernel_rfl
theorem HN : Bb Try.prog 48 37 = true := by kernel_rfl
theorem CU : Bb Try.prog 59 65 = true := by kernel_rfl
theorem OA : Bb Try.prog 62 66 = true := by kernel_rfl
theorem Dg : Bb Try.prog 65 4 = true := by kernel_rfl
theorem QZ : (Try.prog.underlying 3).isSome = true := by kernel_rfl
theorem PA : (Try.prog.underlying 5).isSome = true := by kernel_rfl
theorem QO : (Try.prog.underlying 80).isSome = true := by kernel_rfl
theorem QR : E6 Try.prog 25 4 = true := by kernel_rfl
theorem Qs : E6 Try.prog 27 3 = true := by kernel_rfl
theorem MS : E6 Try.prog 28 1 = true := by kernel_rfl
theorem PZ : E6 Try.prog 29 1 = true := by kernel_rfl
theorem Dp : E6 Try.prog 3 1 = true := by kernel_rfl
theorem Dh : E6 Try.prog 31 4 = true := by kernel_rfl
theorem QE : E6 Try.prog 35 1 = true := by kernel_rfl
theorem Cf : E6 Try.prog 37 3 = true := by kernel_rfl
theorem Jq : E6 Try.prog 4 1 = true := by kernel_rfl
theorem QB : E6 Try.prog 5 1 = true := by kernel_rfl
theorem Fz : E6 Try.prog 52 3 = true := by kernel_rfl
theorem PF : E6 Try.prog 59 1 = true := by kernel_rfl
theorem C6 : E6 Try.prog 61 6 = true := by kernel_rfl
theorem Hg : E6 Try.prog 65 1 = true := by kernel_rfl
theorem QN : E6 Try.prog 66 1 = true := by kernel_rfl
theorem Pk : E6 Try.prog 77 6 = true := by kernel_rfl
theorem Jc : E6 Try.prog 80 1 = true := by kernel_rfl
theorem QC : C0 Try.prog 27 = some (.agg #[.slice none 0 0, .slice none 0 0, .slice none 0 0]) := by kernel_rfl
theorem G9 : C0 Try.prog 3 = some (.int .i64 0) := by kernel_rfl
theorem H6 : C0 Try.prog 31 = some (.agg #[.slice none 0 0, .slice none 0 0, .slice none 0 0, .slice none 0 0]) := by kernel_rfl
theorem Fr : C0 Try.prog 37 = some (.agg #[.slice none 0 0, .slice none 0 0, .slice none 0 0]) := by kernel_rfl
theorem Nn : C0 Try.prog 4 = some (.bool false) := by kernel_rfl
theorem Ho : C0 Try.prog 52 = some (.agg #[.int .i64 0, .int .i64 0, .int .i64 0]) := by kernel_rfl
theorem GM : C0 Try.prog 61 = some (.agg #[.int .i64 0, .int .i64 0, .int .i64 0, .bool false, .slice none 0 0, .slice none 0 0]) := by kernel_rfl
theorem ML : C0 Try.prog 65 = some (.slice none 0 0) := by kernel_rfl
theorem QI : C0 Try.prog 77 = some (.agg #[.int .u8 0, .int .u8 0, .int .u8 0, .bool false, .int .u16 0, .int .u16 0]) := by kernel_rfl
theorem L4 : C0 Try.prog 80 = some (.int .u8 0) := by kernel_rfl
end Go.Lift
