/- Lemmas for MixValidSaid, which YtmmkocokfdheiaaFin7 proves. -/
/- A slice against nil; two structs against each other; functions ar values. No condition. -/
import Derived.Test.YtmmkocokfdheiaaLift16
namespace Go.Lift
open Go.RowKit

variable {P : Program} {X : Ctx} {ops : Array Oper}

/-! Structs of numbers, bools and strings. -/
def tagsOf (P : Program) : Nat → List Field → Option (List Nat)
  | _, [] => some []
  | k, f :: fs => if f.name == "_" || f.offset != k then none else match P.underlying f.type with
    | some (.int _) => (tagsOf P (k + 1) fs).map (0 :: ·)
    | some .bool => (tagsOf P (k + 1) fs).map (1 :: ·)
    | some .string => (tagsOf P (k + 1) fs).map (2 :: ·)
    | _ => none
def seqB (P : Program) (t : TypeId) : Option (List Nat) :=
  match P.underlying t with
  | some (.struct fs) => if P.stoodInHeld t || P.eqGuardType P.depth t then none else tagsOf P 0 fs.toList
  | _ => none
def eqVals : List Nat → List Value → List Value → Option Bool
  | [], [], [] => some true
  | 0 :: ts, .int k a :: ar, .int k' b :: bs => if k = k' then (eqVals ts ar bs).map (fun r => (a == b) && r) else none
  | 1 :: ts, .bool a :: ar, .bool b :: bs => (eqVals ts ar bs).map (fun r => (a == b) && r)
  | 2 :: ts, .string a :: ar, .string b :: bs => (eqVals ts ar bs).map (fun r => (a.toList == b.toList) && r)
  | _, _, _ => none

theorem eqVals_0 {ts : List Nat} {ar bs : List Value} {r : Bool} (h : eqVals (0 :: ts) ar bs = some r) : ∃ k a ar' b bs' r', ar = .int k a :: ar' ∧ bs = .int k b :: bs' ∧ eqVals ts ar' bs' = some r' ∧ r = ((a == b) && r') := by
  unfold eqVals at h
  split at h <;> try (exfalso; simp_all; done)
  rename_i ts' k a ar' k' b bs' e
  cases e
  split at h
  · rename_i e; subst e
    cases hel : eqVals ts ar' bs' with
    | none => rw [hel] at h; cases h
    | some r' =>
      rw [hel] at h
      exact ⟨k, a, ar', b, bs', r', rfl, rfl, hel, by simpa using h.symm⟩
  · cases h
theorem eqVals_1 {ts : List Nat} {ar bs : List Value} {r : Bool} (h : eqVals (1 :: ts) ar bs = some r) : ∃ a ar' b bs' r', ar = .bool a :: ar' ∧ bs = .bool b :: bs' ∧ eqVals ts ar' bs' = some r' ∧ r = ((a == b) && r') := by
  unfold eqVals at h
  split at h <;> try (exfalso; simp_all; done)
  rename_i ts' a ar' b bs' e
  cases e
  cases hel : eqVals ts ar' bs' with
  | none => rw [hel] at h; cases h
  | some r' =>
    rw [hel] at h
    exact ⟨a, ar', b, bs', r', rfl, rfl, hel, by simpa using h.symm⟩
theorem eqVals_2 {ts : List Nat} {ar bs : List Value} {r : Bool} (h : eqVals (2 :: ts) ar bs = some r) : ∃ a ar' b bs' r', ar = .string a :: ar' ∧ bs = .string b :: bs' ∧ eqVals ts ar' bs' = some r' ∧ r = ((a.toList == b.toList) && r') := by
  unfold eqVals at h
  split at h <;> try (exfalso; simp_all; done)
  rename_i ts' a ar' b bs' e
  cases e
  cases hel : eqVals ts ar' bs' with
  | none => rw [hel] at h; cases h
  | some r' =>
    rw [hel] at h
    exact ⟨a, ar', b, bs', r', rfl, rfl, hel, by simpa using h.symm⟩

theorem run_part1 {t : TypeId} (h : aggB P t false = true) {cs : Array Value} {off : Nat} {v : Value} (hv : cs[off]? = some v) (w : World) : (part t cs off).run P w = .ok v w := by
  unfold part
  refine run_then (run_isAgg h w) ?_
  simp only [Bool.false_eq_true, if_false, hv]
  rfl

theorem run_fields (d : Nat) (xs ys : Array Value) (w : World) : ∀ (fs : List Field) (ts : List Nat) (k : Nat) (ar bs : List Value) (r : Bool), tagsOf P k fs = some ts → (∀ (j : Nat) (v : Value), ar[j]? = some v → xs[k + j]? = some v) → (∀ (j : Nat) (v : Value), bs[j]? = some v → ys[k + j]? = some v) → eqVals ts ar bs = some r →
    (Op.eqFields (d + 1) xs ys fs).run P w = .ok r w
  | [], ts, k, ar, bs, r, ht, hx, hy, he => by
    cases ht
    cases ar <;> cases bs <;> simp [eqVals] at he
    subst he; rfl
  | f :: fs, ts, k, ar, bs, r, ht, hx, hy, he => by
    simp only [tagsOf] at ht
    split at ht
    · cases ht
    · rename_i hn
      simp only [Bool.or_eq_true, not_or, beq_iff_eq, bne_iff_ne, ne_eq, Decidable.not_not] at hn
      obtain ⟨hn1, hn2⟩ := hn
      subst hn2
      have step : ∀ (ts' : List Nat) (a b : Value) (ar' bs' : List Value) (q r' : Bool), ar = a :: ar' → bs = b :: bs' → tagsOf P (f.offset + 1) fs = some ts' → eqVals ts' ar' bs' = some r' → aggB P f.type false = true → (Op.equalIn (d + 1) f.type a b).run P w = .ok q w →
          (Op.eqFields (d + 1) xs ys (f :: fs)).run P w = .ok (q && r') w := by
        intro ts' a b ar' bs' q r' ha hb htl hel hag heq
        subst ha; subst hb
        have h1 : xs[f.offset]? = some a := hx 0 a rfl
        have h2 : ys[f.offset]? = some b := hy 0 b rfl
        simp only [Op.eqFields, hn1, ne_eq, not_false_eq_true, if_true]
        refine run_then (run_part1 hag h1 w) (run_then (run_part1 hag h2 w) (run_then heq ?_))
        cases q
        · simp
        · simp only [Bool.not_true, Bool.false_eq_true, if_false, Bool.true_and]
          exact run_fields d xs ys w fs ts' (f.offset + 1) ar' bs' r' htl (fun j v hj => by rw [show f.offset + 1 + j = f.offset + (j + 1) from by omega]; exact hx (j + 1) v hj) (fun j v hj => by rw [show f.offset + 1 + j = f.offset + (j + 1) from by omega]; exact hy (j + 1) v hj) hel
      split at ht
      · rename_i kk hu
        cases htl : tagsOf P (f.offset + 1) fs with
        | none => rw [htl] at ht; cases ht
        | some ts' =>
          rw [htl] at ht; cases ht
          obtain ⟨k1, a1, ar', b1, bs', r', e1, e2, hel, rfl⟩ := eqVals_0 he
          subst e1; subst e2
          exact step ts' _ _ ar' bs' _ r' rfl rfl htl hel (by unfold aggB; rw [hu]; rfl) (run_equalIn_int w d f.type k1 kk a1 b1 hu)
      · rename_i hu
        cases htl : tagsOf P (f.offset + 1) fs with
        | none => rw [htl] at ht; cases ht
        | some ts' =>
          rw [htl] at ht; cases ht
          obtain ⟨a1, ar', b1, bs', r', e1, e2, hel, rfl⟩ := eqVals_1 he
          subst e1; subst e2
          exact step ts' _ _ ar' bs' _ r' rfl rfl htl hel (by unfold aggB; rw [hu]; rfl) (run_equalIn_bool' w d f.type a1 b1 hu)
      · rename_i hu
        cases htl : tagsOf P (f.offset + 1) fs with
        | none => rw [htl] at ht; cases ht
        | some ts' =>
          rw [htl] at ht; cases ht
          obtain ⟨a1, ar', b1, bs', r', e1, e2, hel, rfl⟩ := eqVals_2 he
          subst e1; subst e2
          exact step ts' _ _ ar' bs' _ r' rfl rfl htl hel (by unfold aggB; rw [hu]; rfl) (run_equalIn_string w d f.type a1 b1 hu)
      · cases ht

theorem run_structEq {t : TypeId} {ts : List Nat} (h : seqB P t = some ts) {ar bs : List Value} {r : Bool} (hr : eqVals ts ar bs = some r) (w : World) :
    (Op.equalIn 10000 t (.agg ar.toArray) (.agg bs.toArray)).run P w = .ok r w ∧ P.eqGuardType P.depth t = false := by
  unfold seqB at h
  split at h
  · rename_i fs hu
    split at h
    · cases h
    · rename_i hn
      simp only [Bool.or_eq_true, not_or, Bool.not_eq_true] at hn
      have hf : P.fieldsOf t = fs := by unfold Program.fieldsOf; rw [hu]
      refine ⟨?_, hn.2⟩
      rw [run_equalIn_struct w 9999 t _ _ (by rw [hf]; exact hu) hn.1, hf]
      exact run_fields 9998 _ _ w fs.toList ts 0 ar bs r h (fun j v hj => by simpa using hj) (fun j v hj => by simpa using hj) hr
  · cases h

abbrev aD (ar : List Value) : D := .e (.agg (ar.map fun v => .pure (.val v)))

theorem agg_eq {w : World} {G : Gh} {v : Value} {ar : List Value} (h : RdD P w G v (aD ar)) : v = .agg ar.toArray := by
  obtain ⟨vs, rfl, hs, h⟩ := h
  congr 1
  have hs' : vs.size = ar.length := by simpa using hs
  apply Array.ext
  · simpa using hs'
  · intro j h1 h2
    have hj : j < ar.length := by omega
    have : RdC P w G (cellAt vs j) (.pure (.val ar[j])) := h j _ (by simp [hj])
    have h3 := val_eq (this : RdT w G.S _ (.val _))
    simpa [cellAt, h1] using h3

section run
variable {dr : Bool} {Q : St → Prop} {r i : Nat} {st : St} {log : List (Nat × Loc)} {o : Oper} {gs : List (Operand × D)}

theorem r_eqA {xt yt : TypeId} {x y : Operand} {s : Nat} {ts : List Nat} {b : Bool} (ar bs : List Value) (hat : At st.env ops i X.n (.binOp .eql xt x y yt) s gs)
    (hx : opd st.env x = some (aD ar)) (hy : opd st.env y = some (aD bs)) (ht : seqB P xt = some ts) (he : eqVals ts ar bs = some b)
    (next : Run P X ops dr Q r (i + 1) (Loc.upd ⟨gs ++ [(x, aD ar), (y, aD bs)], [], some s, some (bD b), [], []⟩ st) ((i, ⟨gs ++ [(x, aD ar), (y, aD bs)], [], some s, some (bD b), [], []⟩) :: log)) : Run P X ops dr Q (r + 1) i st log := by
  obtain ⟨o, ho, hop, hd, hn, hg, hgp⟩ := hat.out
  refine Run.step next ⟨preR_append.2 ⟨hgp, hx, hy, trivial⟩, trivial, trivial⟩ (LR.value ho hg rfl hd.symm (hn_of hd hn) ?_)
  intro G st a w hs hpre
  obtain ⟨hx, hy, _⟩ := (preR_append.1 hpre.r).2
  have hX := agg_eq (hs.opd hx)
  have hY := agg_eq (hs.opd hy)
  obtain ⟨h1, h2⟩ := run_structEq ht he w
  refine ⟨.bool b, w, G, ?_, hs, ?_⟩
  · simp only [execOp, hop, hX, hY]
    refine run_then (a := .bool b) (w1 := w) (run_then (run_eqGuard_agg w .eql xt x y _ _ h2) ?_) rfl
    rw [run_eql_struct, h1]; rfl
  · rintro d ⟨⟩
    exact ⟨.val _ rfl, fun b hb => by cases hb⟩
theorem r_neA {xt yt : TypeId} {x y : Operand} {s : Nat} {ts : List Nat} {b : Bool} (ar bs : List Value) (hat : At st.env ops i X.n (.binOp .neq xt x y yt) s gs)
    (hx : opd st.env x = some (aD ar)) (hy : opd st.env y = some (aD bs)) (ht : seqB P xt = some ts) (he : eqVals ts ar bs = some b)
    (next : Run P X ops dr Q r (i + 1) (Loc.upd ⟨gs ++ [(x, aD ar), (y, aD bs)], [], some s, some (bD (!b)), [], []⟩ st) ((i, ⟨gs ++ [(x, aD ar), (y, aD bs)], [], some s, some (bD (!b)), [], []⟩) :: log)) : Run P X ops dr Q (r + 1) i st log := by
  obtain ⟨o, ho, hop, hd, hn, hg, hgp⟩ := hat.out
  refine Run.step next ⟨preR_append.2 ⟨hgp, hx, hy, trivial⟩, trivial, trivial⟩ (LR.value ho hg rfl hd.symm (hn_of hd hn) ?_)
  intro G st a w hs hpre
  obtain ⟨hx, hy, _⟩ := (preR_append.1 hpre.r).2
  have hX := agg_eq (hs.opd hx)
  have hY := agg_eq (hs.opd hy)
  obtain ⟨h1, h2⟩ := run_structEq ht he w
  refine ⟨.bool (!b), w, G, ?_, hs, ?_⟩
  · simp only [execOp, hop, hX, hY]
    refine run_then (a := .bool (!b)) (w1 := w) (run_then (run_eqGuard_agg w .neq xt x y _ _ h2) ?_) rfl
    rw [run_neq_struct, h1]; rfl
  · rintro d ⟨⟩
    exact ⟨.val _ rfl, fun b hb => by cases hb⟩

/-- A slice against nil: if they are equal, it is empty. -/
theorem r_eqNil {xt yt : TypeId} {x : Operand} {s e : Nat} {rows : List (List T)} (hat : At st.env ops i X.n (.binOp .eql xt x (.const (.slice none 0 0)) yt) s gs)
    (hx : opd st.env x = some (one (.sl rows))) (ht : sliceB P xt e = true)
    (next : Run P X ops dr Q r (i + 1) (Loc.upd ⟨gs ++ [(x, one (.sl rows))], [], some s, some (.e (.one (.nilq (rows = [])))), [], []⟩ st) ((i, ⟨gs ++ [(x, one (.sl rows))], [], some s, some (.e (.one (.nilq (rows = [])))), [], []⟩) :: log)) : Run P X ops dr Q (r + 1) i st log := by
  obtain ⟨o, ho, hop, hd, hn, hg, hgp⟩ := hat.out
  refine Run.step next ⟨preR_append.2 ⟨hgp, hx, trivial⟩, trivial, trivial⟩ (LR.value ho hg rfl hd.symm (hn_of hd hn) ?_)
  intro G st a w hs hpre
  obtain ⟨hx, _⟩ := (preR_append.1 hpre.r).2
  have hX : RdT w G.S (a.eval x) (.sl rows) := hs.opd hx
  obtain ⟨av, l, c, hv, hq⟩ : ∃ av l c, a.eval x = .slice av l c ∧ (av.isNone = true → rows = []) := by
    generalize a.eval x = v at hX
    cases hX with
    | nil av cap => exact ⟨av, 0, cap, rfl, fun _ => rfl⟩
    | sl β off cap e arr el fz rows h1 h2 h3 h4 h5 h6 => exact ⟨_, _, _, rfl, fun h => by cases h⟩
  have hu : P.underlying xt = some (.slice e) := by
    unfold sliceB at ht
    split at ht
    · rename_i e' he; rw [he]; simp at ht; rw [ht]
    · cases ht
  refine ⟨.bool av.isNone, w, G, ?_, hs, ?_⟩
  · simp only [execOp, hop, hv]
    refine run_then (a := .bool av.isNone) (w1 := w) (run_then (a := ()) (w1 := w) (by simp [eqGuard]) ?_) rfl
    have h1 : (Op.equalIn (9999 + 1) xt (.slice av l c) (.slice none 0 0)).run P w = .ok av.isNone w := by
      generalize 9999 = dd
      cases av <;> (unfold Op.equalIn; exact run_then (run_underlying' hu w) rfl)
    simp only [binOp, Act.eval]
    refine run_then (a := av.isNone) (w1 := w) ?_ rfl
    exact h1
  · rintro d ⟨⟩
    exact ⟨⟨_, rfl, hq⟩, fun b hb => by cases hb⟩

end run

theorem W_condN {c : Operand} {x y : Code} {Q : Exit → St → Prop} {st : St} {p : Prop} (hc : opd st.env c = some (.e (.one (.nilq p)))) (ht : p → W P X x Q st) (hf : W P X y Q st) : W P X (.cond c x y) Q st := by
  intro a w hs
  obtain ⟨b, hcv, hp⟩ : ∃ b, a.eval c = .bool b ∧ (b = true → p) := by
    obtain ⟨G, hs⟩ := hs
    exact hs.opd hc
  cases b with
  | true => exact wp_cond_true hcv (ht (hp rfl) a w hs)
  | false => exact wp_cond_false hcv (hf a w hs)
end Go.Lift
