/- Lemmas for MixValidSaid, which YtmmkocokfdheiaaFin7 proves. -/
/- From a contract on trees to a law's own statement. No condition. -/
import Derived.Test.YtmmkocokfdheiaaLift19
namespace Go.Lift
open Go.RowKit Go.ChangeShapes Go.WideShapes

section
variable {P : Program}

def dOf (P : Program) (t : TypeId) (us : List T) : D := match P.underlying t with
  | some (.struct _) => .e (.agg (us.map .pure))
  | _ => .e (.one (.pure (us.headD .nil0)))

def FitArgs (P : Program) (d : Nat) : List TypeId → List D → Prop
  | [], [] => True
  | t :: ts, x :: xs => (∃ us, FitD P d t us ∧ x = dOf P t us) ∧ FitArgs P d ts xs
  | _, _ => False

theorem rd_arg {H : Type} {enc : TypeId × Value → H} {w : World} {d base : Nat} {t : TypeId} {v : Value} {x : DataW H} {ps : List MemPlace} (hp : plainT P d t = true) (hval : Value.okWide P w .any base t v) (h : DataW.Trod enc P w 0 (fun _ => true) true t v x ps) :
    ∃ us, FitD P d t us ∧ RdD P w (G0 (All w)) v (dOf P t us) := by
  obtain ⟨fuel, hf⟩ := h
  obtain ⟨us, h1, h2⟩ := rd_trod d fuel t _ _ hp hf
  refine ⟨us, h2, ?_⟩
  have single : ∀ (v : Value), v.cells.toList = [v] → Reads w (All w) v.cells.toList us → RdD P w (G0 (All w)) v (.e (.one (.pure (us.headD .nil0)))) := by
    intro v hv hr
    rw [hv] at hr
    match us, hr with
    | [u], hr => exact hr.1
  unfold dOf
  cases d with
  | zero => cases hp
  | succ d =>
    unfold plainT at hp
    split at hp
    · rename_i k hu
      rw [hu]
      obtain ⟨n, rfl⟩ := okWide_int hu hval
      exact single _ rfl h1
    · rename_i hu
      rw [hu]
      obtain ⟨n, rfl⟩ := okWide_bool hu hval
      exact single _ rfl h1
    · rename_i hu
      rw [hu]
      obtain ⟨n, rfl⟩ := okWide_string hu hval
      exact single _ rfl h1
    · rename_i e hu
      rw [hu]
      obtain ⟨a, len, cap, rfl⟩ := okWide_slice hu hval
      exact single _ rfl h1
    · rename_i fs hu
      rw [hu]
      simp only [Value.okWide, hu] at hval
      obtain ⟨cs, rfl, _, _⟩ := hval
      have h1 : Reads w (All w) cs.toList us := h1
      refine ⟨cs, rfl, by simpa using h1.len, fun j c hj => ?_⟩
      rw [List.getElem?_map] at hj
      cases hx : us[j]? with
      | none => rw [hx] at hj; cases hj
      | some u =>
        rw [hx] at hj; cases hj
        obtain ⟨v, h3, h4⟩ := h1.get j u hx
        have : cellAt cs j = v := by unfold cellAt; rw [show cs[j]? = some v from by simpa using h3]; rfl
        rw [this]; exact h4
    · cases hp

theorem rd_args {H : Type} {enc : TypeId × Value → H} {w : World} {d base : Nat} : ∀ {ts : List TypeId} {vs : List Value} {ds : List (DataW H)} {ps : List MemPlace}, (ts.all (plainT P d)) = true → (∀ (j : Nat) t v, ts[j]? = some t → vs[j]? = some v → Value.okWide P w .any base t v) →
    DataW.TrodAll enc P w 0 (fun _ => true) true ts vs ds ps → ∃ Ds, FitArgs P d ts Ds ∧ vs.length = Ds.length ∧ ds.length = ts.length ∧ ∀ (j : Nat) (x : D), Ds[j]? = some x → ∃ v, vs[j]? = some v ∧ RdD P w (G0 (All w)) v x
  | [], [], [], _, _, _, _ => ⟨[], trivial, rfl, rfl, fun j x h => by simp at h⟩
  | t :: ts, v :: vs, x :: xs, _, hp, hval, h => by
    obtain ⟨p, q, h1, h2, _⟩ := h
    simp only [List.all_cons, Bool.and_eq_true] at hp
    obtain ⟨us, h3, h4⟩ := rd_arg hp.1 (hval 0 t v rfl rfl) h1
    obtain ⟨Ds, h5, h6, h7, h8⟩ := rd_args hp.2 (fun j t v hj hv => hval (j + 1) t v (by simpa using hj) (by simpa using hv)) h2
    refine ⟨dOf P t us :: Ds, ⟨⟨us, h3, rfl⟩, h5⟩, by simp [h6], by simp [h7], fun j y hj => ?_⟩
    cases j with
    | zero => simp at hj; subst hj; exact ⟨v, rfl, h4⟩
    | succ j =>
      obtain ⟨v', g1, g2⟩ := h8 j y (by simpa using hj)
      exact ⟨v', by simpa using g1, g2⟩
  | [], [], _ :: _, _, _, _, h => h.elim
  | [], _ :: _, _, _, _, _, h => by cases ‹List (DataW H)› <;> exact h.elim
  | _ :: _, [], _, _, _, _, h => by cases ‹List (DataW H)› <;> exact h.elim
  | _ :: _, _ :: _, [], _, _, _, h => h.elim

theorem trodAll_below {H : Type} {enc : TypeId × Value → H} (hl : laidOutB P = true) {W W' : World} (hb : Below W.heap.size W W') : ∀ {ts : List TypeId} {vs : List Value} {ds : List (DataW H)} {ps : List MemPlace}, (ts.all fun t => P.readableRec t && decide (t < P.types.size)) = true →
    DataW.TrodAll enc P W 0 (fun _ => true) true ts vs ds ps → (∀ x ∈ ps, x.block < W.heap.size) → DataW.TrodAll enc P W' 0 (fun b => decide (b < W.heap.size)) true ts vs ds ps
  | [], [], [], _, _, h, _ => h
  | t :: ts, v :: vs, x :: xs, _, hr, h, hlt => by
    obtain ⟨p, q, h1, h2, rfl⟩ := h
    simp only [List.all_cons, Bool.and_eq_true, decide_eq_true_eq] at hr
    refine ⟨p, q, Below.trod hl hr.1.1 hr.1.2 h1 hb (fun y hy => hlt y (by simp [hy])), trodAll_below hl hb (by simpa using hr.2) h2 (fun y hy => hlt y (by simp [hy])), rfl⟩
  | [], [], _ :: _, _, _, h, _ => h.elim
  | [], _ :: _, _, _, _, h, _ => by cases ‹List (DataW H)› <;> exact h.elim
  | _ :: _, [], _, _, _, h, _ => by cases ‹List (DataW H)› <;> exact h.elim
  | _ :: _, _ :: _, [], _, _, h, _ => h.elim

/-- A LAW: whatever the plain inputs, it returns true and its arguments read as before. -/
theorem law_lifted {H : Type} {enc : TypeId × Value → H} {C : Checked} {os : Os} {f : FuncId} {fn : Func} {s : ChangeSpec} {conds : List PathCond} {tb : TypeId} {d : Nat}
    (own : ownKnob C.prog.godebug = none) (started : os.Started) (noInit : C.prog.inits.idxOf? f = none) (hfn : C.prog.funcs[f]? = some fn)
    (witness : ∃ (w : World) (tape : Tape) (i : Input), w.os = os ∧ (w.forCall tape i).Shaped C.prog ∧ i.vars = [] ∧ Input.okWide C.prog (w.forCall tape i) .any w.heap.size f i ∧
      s.pre6 enc C.prog fn conds false (w.forCall tape i).memory i.args ∧ ({} : Assume).holds C.prog (lone (Frame.enter C.prog f i.args .normal) [] (w.forCall tape i)))
    (hv : s.vars = []) (hs : ∀ ds : List (DataW H), ds.length = fn.params.toList.length → s.fn H (ds ++ []) = { results := [.lit (.bool true)], args := ds })
    (hres : fn.resultTypes = #[tb]) (htb : C.prog.underlying tb = some .bool) (hl : laidOutB C.prog = true)
    (hread : (fn.params.toList.all fun t => C.prog.readableRec t && decide (t < C.prog.types.size)) = true) (hplain : (fn.params.toList.all (plainT C.prog d)) = true)
    (law : ∀ Ds, FitArgs C.prog d fn.params.toList Ds → Contract C.prog f Ds [] (.e (.one (.pure (.val (.bool true)))))) :
    ReturnsInHanded {} C os f .any (s.pre6 enc C.prog fn conds false) (s.post enc C.prog fn false true false false) := by
  refine returnsInHanded_of_change own started noInit hfn witness ?_
  intro W base args ds gs before hval hW _ _
  have hW' := hW
  obtain ⟨p, q, hA, hV, rfl, _, _⟩ := hW
  rw [hv] at hV
  obtain ⟨rfl, rfl⟩ := trodVars_none hV
  obtain ⟨Ds, h1, h2, h3, h4⟩ := rd_args hplain (fun j t v hj hvj => hval j t v (by simpa using hj) (by simpa using hvj)) hA
  have hlt : ∀ x ∈ p, x.block < W.heap.size := fun x hx => hW'.lt x (by simp [hx])
  refine (law Ds h1 W (All W) args (fun β h => h) (by simpa using h2) ?_).mono ?_
  · intro j x hj
    obtain ⟨v, g1, g2⟩ := h4 j x hj
    have : cellAt args j = v := by unfold cellAt; rw [show args[j]? = some v from by simpa using g1]; rfl
    rw [this]; exact g2
  · rintro e W' ⟨v, G', rfl, hb, _, _, hr, _⟩
    have hvb : v = .bool true := by
      have h5 : RdT W' G'.S v (.val (.bool true)) := hr
      cases h5; rfl
    subst hvb
    refine ⟨_, rfl, ds, [], p ++ [], [], p, [], hW', ?_, ?_, ?_, hb.frame _, fun h => by cases h⟩
    · rw [hs ds h3, hres]
      exact trodAll_mk1 (shut_bool htb true)
    · rw [hs ds h3]
      exact trodAll_below hl hb hread hA hlt
    · rw [hs ds h3, hv]
      rfl
end
end Go.Lift
