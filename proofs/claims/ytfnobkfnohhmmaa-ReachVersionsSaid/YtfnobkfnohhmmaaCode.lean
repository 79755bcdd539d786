/- Lemmas for ReachVersionsSaid, which YtfnobkfnohhmmaaFinW4 proves. -/
import Derived.Test.YtfnobkfnohhmmaaLift18
import Derived.ProofKit
import Derived.Test.YtfnobkfnohhmmaaProg
import Derived.KernelRfl
/- How a law's given inputs are read as trees: what a datum of plain types (numbers, bools, strings, slices and structs of them) is. No condition. -/
namespace Go.Lift
open Go.RowKit Go.ChangeShapes Go.WideShapes
section
variable {P : Program}
def Je (P : Program) : Nat → List Field → Nat → Bool
 | o, [], n => o == n
 | o, f :: fs, n => f.offset == o && Je P (o + P.cellsOf f.type) fs n
def Hf (P : Program) : Nat → TypeId → Bool
 | 0, _ => false
 | d + 1, t => match P.underlying t with
  | some (.int _) => true
  | some .bool => true
  | some .string => true
  | some (.slice e) => decide (0 < P.cellsOf e) && Hf P d e
  | some (.struct fs) => Je P 0 fs.toList (P.cellsOf t) && fs.toList.all fun f => Hf P d f.type
  | _ => false
def Qh (F : TypeId → List T → Prop) : List TypeId → List T → Prop
 | [], ts => ts = []
 | t :: tys, ts => ∃ a b, ts = a ++ b ∧ F t a ∧ Qh F tys b
def If (P : Program) : Nat → TypeId → List T → Prop
 | 0, _, _ => False
 | d + 1, t, ts => match P.underlying t with
  | some (.int k) => ∃ n, ts = [.val (.int k n)] ∧ (Lit.int k n).wf = true
  | some .bool => ∃ b, ts = [.val (.bool b)]
  | some .string => ∃ s, ts = [.val (.string s)]
  | some (.slice e) => ∃ rows, ts = [.sl rows] ∧ ∀ row, row ∈ rows → If P d e row
  | some (.struct fs) => Qh (If P d) (fs.toList.map (·.type)) ts
  | _ => False
def Gw (w : World) (S : Nat → Prop) : List Value → List T → Prop
 | [], [] => True
 | v :: vs, t :: ts => Dr w S v t ∧ Gw w S vs ts
 | _, _ => False
theorem Gw.append {w : World} {S : Nat → Prop} : ∀ {a b : List Value} {x y : List T}, Gw w S a x → Gw w S b y → Gw w S (a ++ b) (x ++ y)
 | [], _, [], _, _, h => h
 | _ :: _, _, _ :: _, _, h1, h2 => ⟨h1.1, Gw.append h1.2 h2⟩
theorem Gw.len {w : World} {S : Nat → Prop} : ∀ {a : List Value} {x : List T}, Gw w S a x → a.length = x.length
 | [], [], _ => rfl
 | _ :: _, _ :: _, h => by simp [h.2.len]
theorem Gw.get {w : World} {S : Nat → Prop} : ∀ {a : List Value} {x : List T}, Gw w S a x → ∀ (j : Nat) (t : T), x[j]? = some t → ∃ v, a[j]? = some v ∧ Dr w S v t
 | [], [], _, j, t, hj => by simp at hj
 | v :: _, _ :: _, h, 0, t, hj => by simp at hj; subst hj; exact ⟨v, rfl, h.1⟩
 | _ :: _, _ :: _, h, j + 1, t, hj => by
  obtain ⟨v, h1, h2⟩ := h.2.get j t (by simpa using hj)
  exact ⟨v, by simpa using h1, h2⟩
theorem JW {α : Type} {p : Nat → α → Prop} : ∀ (n : Nat), (∀ i, i < n → ∃ x, p i x) → ∃ l : List α, l.length = n ∧ ∀ i x, l[i]? = some x → p i x
 | 0, _ => ⟨[], rfl, fun i x h => by simp at h⟩
 | n + 1, h => by
  obtain ⟨l, h1, h2⟩ := JW n (fun i hi => h i (by omega))
  obtain ⟨x, hx⟩ := h n (by omega)
  refine ⟨l ++ [x], by simp [h1], fun i y hi => ?_⟩
  by_cases hlt : i < l.length
  ·rw [List.getElem?_append_left hlt] at hi; exact h2 i y hi
  ·rw [List.getElem?_append_right (by omega)] at hi
   have : i - l.length = 0 := by
    have := AL hi
    simp at this; omega
   rw [this] at hi
   simp at hi; subst hi
   have : i = n := by omega
   subst this; exact hx
theorem Ir {α : Type} {f : Nat → Option α} : ∀ {n : Nat} {l : List α}, (List.range n).mapM f = some l → l.length = n ∧ ∀ i, i < n → f i = l[i]? := by
 intro n l h
 have h1 := mapM_some_length h
 refine ⟨by simpa using h1, fun i hi => ?_⟩
 exact mapM_some_get h i i (by simp [hi])
theorem Mo {w : World} {b o : Nat} {v : Value} (h : w.cell? ⟨b, o, none⟩ = some v) : ∃ arr el fz, w.heap[b]? = some (.cells arr el fz) ∧ arr[o]? = some v := by
 unfold World.cell? at h
 split at h
 ·rename_i c el fz hc
  exact ⟨c, el, fz, hc, by simpa using h⟩
 ·cases h
theorem P4 {w : World} {b : Nat} {o : Obj} (h : w.heap[b]? = some o) : b < w.heap.size := by
 rcases Nat.lt_or_ge b w.heap.size with h1 | h1
 ·exact h1
 ·rw [Array.getElem?_eq_none h1] at h; cases h
abbrev Oc (w : World) : Nat → Prop := fun β => β < w.heap.size
theorem LC {H : Type} {enc : TypeId × Value → H} {w : World} {sp : Nat → Bool} {held : Bool} {n d : Nat} {cs : List Value}
  (ih : ∀ (t : TypeId) (cs : List Value) (x : DataW H × List MemPlace), Hf P d t = true → DataW.trod enc P w 0 sp held n t cs = some x → ∃ ts, Gw w (Oc w) cs ts ∧ If P d t ts) :
  ∀ (fs : List Field) (o : Nat), Je P o fs cs.length = true → (fs.all fun f => Hf P d f.type) = true →
   (∀ f, f ∈ fs → ∃ x, DataW.trod enc P w 0 sp held n f.type ((cs.drop f.offset).take (P.cellsOf f.type)) = some x) →
   ∃ ts, Gw w (Oc w) (cs.drop o) ts ∧ Qh (If P d) (fs.map (·.type)) ts
 | [], o, hc, _, _ => by
  simp only [Je, beq_iff_eq] at hc
  refine ⟨[], ?_, rfl⟩
  rw [List.drop_eq_nil_of_le (by omega)]; trivial
 | f :: fs, o, hc, hp, hx => by
  simp only [Je, Bool.and_eq_true, beq_iff_eq] at hc
  simp only [List.all_cons, Bool.and_eq_true] at hp
  obtain ⟨x, hx0⟩ := hx f (by simp)
  rw [hc.1] at hx0
  obtain ⟨ts, h1, h2⟩ := ih _ _ _ hp.1 hx0
  obtain ⟨us, h3, h4⟩ := LC ih fs _ hc.2 hp.2 (fun g hg => hx g (by simp [hg]))
  refine ⟨ts ++ us, ?_, ⟨ts, us, rfl, h2, h4⟩⟩
  have : cs.drop o = (cs.drop o).take (P.cellsOf f.type) ++ cs.drop (o + P.cellsOf f.type) := by
   rw [← List.drop_drop, List.take_append_drop]
  rw [this]
  exact h1.append h3
theorem LK {H : Type} {enc : TypeId × Value → H} {w : World} {sp : Nat → Bool} {held : Bool} : ∀ (d fuel : Nat) (t : TypeId) (cs : List Value) (x : DataW H × List MemPlace), Hf P d t = true → DataW.trod enc P w 0 sp held fuel t cs = some x → ∃ ts, Gw w (Oc w) cs ts ∧ If P d t ts
 | 0, _, _, _, _, hp, _ => by cases hp
 | d + 1, fuel, t, cs, x, hp, hx => by
  unfold Hf at hp
  unfold If
  split at hp
  ·rename_i k hu
   obtain ⟨n, rfl, _, hw⟩ := DataW.trod_int hu hx
   exact ⟨[.val (.int k n)], ⟨.val _ rfl, trivial⟩, n, rfl, hw⟩
  ·rename_i hu
   obtain ⟨b, rfl, _⟩ := DataW.trod_bool hu hx
   exact ⟨[.val (.bool b)], ⟨.val _ rfl, trivial⟩, b, rfl⟩
  ·rename_i hu
   obtain ⟨b, rfl, _⟩ := DataW.trod_string hu hx
   exact ⟨[.val (.string b)], ⟨.val _ rfl, trivial⟩, b, rfl⟩
  ·rename_i e hu
   simp only [Bool.and_eq_true, decide_eq_true_eq] at hp
   rcases DataW.trod_slice hu hx with ⟨rfl, _⟩ | ⟨a, len, cap, elems, rest, n, rfl, rfl, _, _, hl, _, hlen, hel, _, _⟩
   ·exact ⟨[.sl []], ⟨.nil none 0, trivial⟩, [], rfl, fun row h => by cases h⟩
   ·have hrow : ∀ i, i < len → ∃ row, ∃ csi, w.cells? 0 (a.add (i * P.cellsOf e)) (P.cellsOf e) = some csi ∧ Gw w (Oc w) csi row ∧ If P d e row := by
     intro i hi
     have h1 := hel i hi
     have h2 : elems[i]? = some (elems[i]'(by omega)) := by simp [show i < elems.length from by omega]
     rw [h2] at h1
     obtain ⟨csi, h3, h4⟩ := Option.bind_eq_some_iff.1 h1
     obtain ⟨row, h5, h6⟩ := LK d n e csi _ hp.2 h4
     exact ⟨row, csi, h3, h5, h6⟩
    obtain ⟨rows, hrl, hrows⟩ := JW len hrow
    subst hrl
    refine ⟨[.sl rows], ⟨?_, trivial⟩, rows, rfl, fun row hm => ?_⟩
    ·cases hr0 : rows with
     | nil => exact .nil _ _
     | cons r0 rs0 =>
      rw [← hr0]
      have hpos : 0 < rows.length := by rw [hr0]; simp
      -- each cell
      have hcell : ∀ (i : Nat) (row : List T) (j : Nat) (u : T), rows[i]? = some row → row[j]? = some u → j < P.cellsOf e ∧ ∃ v, w.cell? ((a.add (i * P.cellsOf e)).add j) = some v ∧ Dr w (Oc w) v u := by
       intro i row j u hi hj
       obtain ⟨csi, h1, h2, _⟩ := hrows i row hi
       obtain ⟨v, h3, h4⟩ := h2.get j u hj
       unfold World.cells? at h1
       rw [if_pos (Nat.zero_le _)] at h1
       obtain ⟨h5, h6⟩ := Ir h1
       have hjl : j < P.cellsOf e := by have := AL h3; omega
       exact ⟨hjl, v, by rw [h6 j hjl, h3], h4⟩
      have hrlen : ∀ (i : Nat) (row : List T), rows[i]? = some row → row.length = P.cellsOf e := by
       intro i row hi
       obtain ⟨csi, h1, h2, _⟩ := hrows i row hi
       unfold World.cells? at h1
       rw [if_pos (Nat.zero_le _)] at h1
       obtain ⟨h5, _⟩ := Ir h1
       rw [← h2.len, h5]
      have hget : ∀ i (hi : i < rows.length), rows[i]? = some (rows[i]'hi) := fun i hi => by simp [hi]
      have hr00 := hget 0 hpos
      have hl0 := hrlen 0 _ hr00
      obtain ⟨_, v0, hv0, _⟩ := hcell 0 _ 0 ((rows[0]'hpos)[0]'(by omega)) hr00 (by simp)
      have hadd0 : (a.add (0 * P.cellsOf e)).add 0 = a := by simp [Addr.add]
      rw [hadd0] at hv0
      have hspot := World.cell?_spot hv0
      obtain ⟨β, off, spot⟩ := a
      simp only at hspot
      subst hspot
      obtain ⟨arr, el, fz, hb, _⟩ := Mo hv0
      have hadd : ∀ i j : Nat, ((⟨β, off, none⟩ : Addr).add (i * P.cellsOf e)).add j = ⟨β, off + i * P.cellsOf e + j, none⟩ := by
       intro i j
       unfold Addr.add
       split
       ·rename_i h1
        split
        ·rename_i h2; rw [h2]; simp
        ·rename_i h2; simp only [Addr.mk.injEq, true_and, and_true]; omega
       ·split <;> simp_all <;> omega
      have hat : ∀ (i : Nat) (row : List T) (j : Nat) (u : T), rows[i]? = some row → row[j]? = some u → off + i * P.cellsOf e + j < arr.size ∧ Dr w (Oc w) (Ay arr (off + i * P.cellsOf e + j)) u := by
       intro i row j u hi hj
       obtain ⟨_, v, h1, h2⟩ := hcell i row j u hi hj
       rw [hadd] at h1
       obtain ⟨arr', el', fz', h3, h4⟩ := Mo h1
       rw [hb] at h3; cases h3
       have hlt : off + i * P.cellsOf e + j < arr.size := by
        rcases Nat.lt_or_ge (off + i * P.cellsOf e + j) arr.size with h | h
        ·exact h
        ·rw [Array.getElem?_eq_none h] at h4; cases h4
       refine ⟨hlt, ?_⟩
       have : Ay arr (off + i * P.cellsOf e + j) = v := by unfold Ay; rw [h4]; rfl
       rw [this]; exact h2
      refine .sl β off cap (P.cellsOf e) arr el fz rows (P4 hb) hb hl ?_ hrlen (fun i row j u hi hj => (hat i row j u hi hj).2)
      have hil := hget (rows.length - 1) (by omega)
      have hll := hrlen _ _ hil
      have h7 := (hat (rows.length - 1) _ (P.cellsOf e - 1) ((rows[rows.length - 1]'(by omega))[P.cellsOf e - 1]'(by omega)) hil (by simp)).1
      have h8 : rows.length * P.cellsOf e = (rows.length - 1) * P.cellsOf e + P.cellsOf e := by
       rw [← Nat.succ_mul]; congr 1; omega
      omega
    ·obtain ⟨i, hi⟩ := List.mem_iff_getElem?.1 hm
     obtain ⟨_, _, _, h⟩ := hrows i row hi
     exact h
  ·rename_i fs hu
   simp only [Bool.and_eq_true] at hp
   obtain ⟨xs, n, rfl, _, hcl, hxl, hf⟩ := DataW.trod_struct hu hx
   have := LC (enc := enc) (sp := sp) (held := held) (cs := cs) (fun t cs x h1 h2 => LK d n t cs x h1 h2) fs.toList 0 (by rw [hcl]; exact hp.1) hp.2 (fun f hm => by
    obtain ⟨i, hi⟩ := List.mem_iff_getElem?.1 hm
    have hi' : fs[i]? = some f := by simpa using hi
    have h1 := hf i f hi'
    have hlt : i < fs.size := by
     have := AL hi
     simpa using this
    exact ⟨xs[i]'(by omega), by rw [h1]; simp [show i < xs.length from by omega]⟩)
   simpa using this
  ·cases hp
end
end Go.Lift

/- From a contract on trees to a law's own statement. No condition. -/
namespace Go.Lift
open Go.RowKit Go.ChangeShapes Go.WideShapes
section
variable {P : Program}
def P0 (P : Program) (t : TypeId) (us : List T) : D := match P.underlying t with
 | some (.struct _) => .e (.agg (us.map .pure))
 | _ => .e (.one (.pure (us.headD .nil0)))
def H0 (P : Program) (d : Nat) : List TypeId → List D → Prop
 | [], [] => True
 | t :: ts, x :: xs => (∃ us, If P d t us ∧ x = P0 P t us) ∧ H0 P d ts xs
 | _, _ => False
theorem QM {H : Type} {enc : TypeId × Value → H} {w : World} {d base : Nat} {t : TypeId} {v : Value} {x : DataW H} {ps : List MemPlace} (hp : Hf P d t = true) (hval : Value.okWide P w .any base t v) (h : DataW.Trod enc P w 0 (fun _ => true) true t v x ps) :
  ∃ us, If P d t us ∧ FV P w (G0 (Oc w)) v (P0 P t us) := by
 obtain ⟨fuel, hf⟩ := h
 obtain ⟨us, h1, h2⟩ := LK d fuel t _ _ hp hf
 refine ⟨us, h2, ?_⟩
 have single : ∀ (v : Value), v.cells.toList = [v] → Gw w (Oc w) v.cells.toList us → FV P w (G0 (Oc w)) v (.e (.one (.pure (us.headD .nil0)))) := by
  intro v hv hr
  rw [hv] at hr
  match us, hr with
  | [u], hr => exact hr.1
 unfold P0
 cases d with
 | zero => cases hp
 | succ d =>
  unfold Hf at hp
  split at hp
  ·rename_i k hu
   rw [hu]
   obtain ⟨n, rfl⟩ := okWide_int hu hval
   exact single _ rfl h1
  ·rename_i hu
   rw [hu]
   obtain ⟨n, rfl⟩ := okWide_bool hu hval
   exact single _ rfl h1
  ·rename_i hu
   rw [hu]
   obtain ⟨n, rfl⟩ := okWide_string hu hval
   exact single _ rfl h1
  ·rename_i e hu
   rw [hu]
   obtain ⟨a, len, cap, rfl⟩ := okWide_slice hu hval
   exact single _ rfl h1
  ·rename_i fs hu
   rw [hu]
   simp only [Value.okWide, hu] at hval
   obtain ⟨cs, rfl, _, _⟩ := hval
   have h1 : Gw w (Oc w) cs.toList us := h1
   refine ⟨cs, rfl, by simpa using h1.len, fun j c hj => ?_⟩
   rw [List.getElem?_map] at hj
   cases hx : us[j]? with
   | none => rw [hx] at hj; cases hj
   | some u =>
    rw [hx] at hj; cases hj
    obtain ⟨v, h3, h4⟩ := h1.get j u hx
    have : Ay cs j = v := by unfold Ay; rw [show cs[j]? = some v from by simpa using h3]; rfl
    rw [this]; exact h4
  ·cases hp
theorem NA {H : Type} {enc : TypeId × Value → H} {w : World} {d base : Nat} : ∀ {ts : List TypeId} {vs : List Value} {ds : List (DataW H)} {ps : List MemPlace}, (ts.all (Hf P d)) = true → (∀ (j : Nat) t v, ts[j]? = some t → vs[j]? = some v → Value.okWide P w .any base t v) →
  DataW.TrodAll enc P w 0 (fun _ => true) true ts vs ds ps → ∃ Ds, H0 P d ts Ds ∧ vs.length = Ds.length ∧ ds.length = ts.length ∧ ∀ (j : Nat) (x : D), Ds[j]? = some x → ∃ v, vs[j]? = some v ∧ FV P w (G0 (Oc w)) v x
 | [], [], [], _, _, _, _ => ⟨[], trivial, rfl, rfl, fun j x h => by simp at h⟩
 | t :: ts, v :: vs, x :: xs, _, hp, hval, h => by
  obtain ⟨p, q, h1, h2, _⟩ := h
  simp only [List.all_cons, Bool.and_eq_true] at hp
  obtain ⟨us, h3, h4⟩ := QM hp.1 (hval 0 t v rfl rfl) h1
  obtain ⟨Ds, h5, h6, h7, h8⟩ := NA hp.2 (fun j t v hj hv => hval (j + 1) t v (by simpa using hj) (by simpa using hv)) h2
  refine ⟨P0 P t us :: Ds, ⟨⟨us, h3, rfl⟩, h5⟩, by simp [h6], by simp [h7], fun j y hj => ?_⟩
  cases j with
  | zero => simp at hj; subst hj; exact ⟨v, rfl, h4⟩
  | succ j =>
   obtain ⟨v', g1, g2⟩ := h8 j y (by simpa using hj)
   exact ⟨v', by simpa using g1, g2⟩
 | [], [], _ :: _, _, _, _, h => h.elim
 | [], _ :: _, _, _, _, _, h => by cases ‹List (DataW H)› <;> exact h.elim
 | _ :: _, [], _, _, _, _, h => by cases ‹List (DataW H)› <;> exact h.elim
 | _ :: _, _ :: _, [], _, _, _, h => h.elim
theorem II {H : Type} {enc : TypeId × Value → H} (hl : laidOutB P = true) {W W' : World} (hb : Below W.heap.size W W') : ∀ {ts : List TypeId} {vs : List Value} {ds : List (DataW H)} {ps : List MemPlace}, (ts.all fun t => P.readableRec t && decide (t < P.types.size)) = true →
  DataW.TrodAll enc P W 0 (fun _ => true) true ts vs ds ps → (∀ x ∈ ps, x.block < W.heap.size) → DataW.TrodAll enc P W' 0 (fun b => decide (b < W.heap.size)) true ts vs ds ps
 | [], [], [], _, _, h, _ => h
 | t :: ts, v :: vs, x :: xs, _, hr, h, hlt => by
  obtain ⟨p, q, h1, h2, rfl⟩ := h
  simp only [List.all_cons, Bool.and_eq_true, decide_eq_true_eq] at hr
  refine ⟨p, q, Below.trod hl hr.1.1 hr.1.2 h1 hb (fun y hy => hlt y (by simp [hy])), II hl hb (by simpa using hr.2) h2 (fun y hy => hlt y (by simp [hy])), rfl⟩
 | [], [], _ :: _, _, _, h, _ => h.elim
 | [], _ :: _, _, _, _, h, _ => by cases ‹List (DataW H)› <;> exact h.elim
 | _ :: _, [], _, _, _, h, _ => by cases ‹List (DataW H)› <;> exact h.elim
 | _ :: _, _ :: _, [], _, _, h, _ => h.elim
theorem MX {H : Type} {enc : TypeId × Value → H} {C : Checked} {os : Os} {f : FuncId} {fn : Func} {s : ChangeSpec} {conds : List PathCond} {tb : TypeId} {d : Nat}
  (own : ownKnob C.prog.godebug = none) (started : os.Started) (noInit : C.prog.inits.idxOf? f = none) (hfn : C.prog.funcs[f]? = some fn)
  (witness : ∃ (w : World) (tape : Tape) (i : Input), w.os = os ∧ (w.forCall tape i).Shaped C.prog ∧ i.vars = [] ∧ Input.okWide C.prog (w.forCall tape i) .any w.heap.size f i ∧
   s.pre6 enc C.prog fn conds false (w.forCall tape i).memory i.args ∧ ({} : Assume).holds C.prog (lone (Frame.enter C.prog f i.args .normal) [] (w.forCall tape i)))
  (hv : s.vars = []) (hs : ∀ ds : List (DataW H), ds.length = fn.params.toList.length → s.fn H (ds ++ []) = { results := [.lit (.bool true)], args := ds })
  (hres : fn.resultTypes = #[tb]) (htb : C.prog.underlying tb = some .bool) (hl : laidOutB C.prog = true)
  (hread : (fn.params.toList.all fun t => C.prog.readableRec t && decide (t < C.prog.types.size)) = true) (hplain : (fn.params.toList.all (Hf C.prog d)) = true)
  (law : ∀ Ds, H0 C.prog d fn.params.toList Ds → Az C.prog f Ds [] (.e (.one (.pure (.val (.bool true)))))) :
  ReturnsInHanded {} C os f .any (s.pre6 enc C.prog fn conds false) (s.post enc C.prog fn false true false false) := by
 refine returnsInHanded_of_change own started noInit hfn witness ?_
 intro W base args ds gs before hval hW _ _
 have hW' := hW
 obtain ⟨p, q, hA, hV, rfl, _, _⟩ := hW
 rw [hv] at hV
 obtain ⟨rfl, rfl⟩ := trodVars_none hV
 obtain ⟨Ds, h1, h2, h3, h4⟩ := NA hplain (fun j t v hj hvj => hval j t v (by simpa using hj) (by simpa using hvj)) hA
 have hlt : ∀ x ∈ p, x.block < W.heap.size := fun x hx => hW'.lt x (by simp [hx])
 refine (law Ds h1 W (Oc W) args (fun β h => h) (by simpa using h2) ?_).mono ?_
 ·intro j x hj
  obtain ⟨v, g1, g2⟩ := h4 j x hj
  have : Ay args j = v := by unfold Ay; rw [show args[j]? = some v from by simpa using g1]; rfl
  rw [this]; exact g2
 ·rintro e W' ⟨v, G', rfl, hb, _, _, hr, _⟩
  have hvb : v = .bool true := by
   have h5 : Dr W' G'.S v (.val (.bool true)) := hr
   cases h5; rfl
  subst hvb
  refine ⟨_, rfl, ds, [], p ++ [], [], p, [], hW', ?_, ?_, ?_, hb.frame _, fun h => by cases h⟩
  ·rw [hs ds h3, hres]
   exact trodAll_mk1 (shut_bool htb true)
  ·rw [hs ds h3]
   exact II hl hb hread hA hlt
  ·rw [hs ds h3, hv]
   rfl
end
end Go.Lift

/- Trees of plain types as typed values. No condition. -/
namespace Go.Lift
open Go.RowKit
section
variable {P : Program}
def Mc {α : Type} (P : Program) (t : TypeId) (e : α → List T) (W : α → Prop) : Prop := ∀ (d : Nat) (ts : List T), If P d t ts → ∃ x, ts = e x ∧ W x
theorem Kd {t : TypeId} {k : IntKind} {e : Int → List T} (h : KR P t k = true) (he : ∀ n, e n = [.val (.int k n)]) : Mc P t e (fun n => (Lit.int k n).wf = true) := by
 intro d ts hf
 cases d with
 | zero => exact hf.elim
 | succ d =>
  unfold KR at h
  unfold If at hf
  split at h
  ·rename_i k' hu
   rw [hu] at hf
   obtain ⟨n, rfl, hw⟩ := hf
   have : k' = k := by simpa using h
   subst this
   exact ⟨n, (he n).symm, hw⟩
  ·cases h
theorem Og {t : TypeId} {e : Bool → List T} (h : Ql P t = true) (he : ∀ n, e n = [.val (.bool n)]) : Mc P t e (fun _ => True) := by
 intro d ts hf
 cases d with
 | zero => exact hf.elim
 | succ d =>
  unfold Ql at h
  unfold If at hf
  split at h
  ·rename_i hu
   rw [hu] at hf
   obtain ⟨n, rfl⟩ := hf
   exact ⟨n, (he n).symm, trivial⟩
  ·cases h
theorem Ku {α : Type} {e : α → List T} {W : α → Prop} : ∀ (rows : List (List T)), (∀ row, row ∈ rows → ∃ x, row = e x ∧ W x) → ∃ xs : List α, rows = xs.map e ∧ ∀ x, x ∈ xs → W x
 | [], _ => ⟨[], rfl, fun x h => by cases h⟩
 | r :: rows, h => by
  obtain ⟨x, rfl, hx⟩ := h r (by simp)
  obtain ⟨xs, rfl, hxs⟩ := Ku rows (fun row hr => h row (by simp [hr]))
  exact ⟨x :: xs, rfl, fun y hy => by
   rcases List.mem_cons.1 hy with e | e
   ·subst e; exact hx
   ·exact hxs y e⟩
theorem Hr {α : Type} {t el : TypeId} {e : α → List T} {W : α → Prop} {e2 : List α → List T} (h : sliceB P t el = true) (he : Mc P el e W) (h2 : ∀ xs, e2 xs = [.sl (xs.map e)]) : Mc P t e2 (fun xs => ∀ x, x ∈ xs → W x) := by
 intro d ts hf
 cases d with
 | zero => exact hf.elim
 | succ d =>
  unfold sliceB at h
  unfold If at hf
  split at h
  ·rename_i e' hu
   rw [hu] at hf
   obtain ⟨rows, rfl, hr⟩ := hf
   have : e' = el := by simpa using h
   subst this
   obtain ⟨xs, rfl, hxs⟩ := Ku rows (fun row hm => he d row (hr row hm))
   exact ⟨xs, (h2 xs).symm, hxs⟩
  ·cases h
def FJ (P : Program) (t : TypeId) : Option (List TypeId) := match P.underlying t with | some (.struct fs) => some (fs.toList.map (·.type)) | _ => none
theorem IM {t : TypeId} {tys : List TypeId} (h : FJ P t = some tys) {d : Nat} {ts : List T} (hf : If P d t ts) : ∃ d', Qh (If P d') tys ts := by
 cases d with
 | zero => exact hf.elim
 | succ d =>
  unfold FJ at h
  unfold If at hf
  split at h
  ·rename_i fs hu
   cases h
   rw [hu] at hf
   exact ⟨d, hf⟩
  ·cases h
theorem MY {t : TypeId} {tys : List TypeId} (h : FJ P t = some tys) (us : List T) : P0 P t us = .e (.agg (us.map .pure)) := by
 unfold FJ at h
 unfold P0
 revert h
 cases P.underlying t with
 | none => intro h; cases h
 | some k => cases k <;> intro h <;> first | rfl | cases h
theorem P6 {t : TypeId} (h : FJ P t = none) (us : List T) : P0 P t us = .e (.one (.pure (us.headD .nil0))) := by
 unfold FJ at h
 unfold P0
 revert h
 cases P.underlying t with
 | none => intro _; rfl
 | some k => cases k <;> intro h <;> first | rfl | cases h
theorem I1 {d : Nat} {t : TypeId} {ts : List TypeId} {Ds : List D} (h : H0 P d (t :: ts) Ds) : ∃ us xs, Ds = P0 P t us :: xs ∧ If P d t us ∧ H0 P d ts xs := by
 cases Ds with
 | nil => exact h.elim
 | cons x xs => obtain ⟨⟨us, h1, rfl⟩, h2⟩ := h; exact ⟨us, xs, rfl, h1, h2⟩
theorem Mr {d : Nat} {Ds : List D} (h : H0 P d [] Ds) : Ds = [] := by
 cases Ds with
 | nil => rfl
 | cons x xs => exact h.elim
end
end Go.Lift

/- Contracts of functions that write into blocks that they are lent, and that give back blocks of any kind. No condition. -/
namespace Go.Lift
open Go.RowKit
variable {P : Program} {X : H3} {ops : Array Oper}
instance : Inhabited Bu := ⟨.gone⟩
def GK (n m b : Nat) : Bool := if BP b then Nat.blt (b - 90000) n else Nat.blt b m
def NM (G : Gh) (n : Nat) (β : Nat) : Prop := ∃ k, k < n ∧ G.has (90000 + k) β
theorem F8 {k : Nat} (h : k < 1000) : BP (90000 + k) = true := by
 unfold BP
 rw [Nat.ble_eq_true_of_le (by omega), Nat.ble_eq_true_of_le (by omega)]; rfl
theorem H1 {b : Nat} (h : BP b = true) : ∃ k, k < 1000 ∧ b = 90000 + k := by
 unfold BP at h
 rw [Bool.and_eq_true] at h
 have h1 := Nat.le_of_ble_eq_true h.1
 have h2 := Nat.le_of_ble_eq_true h.2
 exact ⟨b - 90000, by omega, by omega⟩
def Bn (P : Program) (f : FuncId) (args : List D) (lent : List (Bu × Bu)) (rv : List Bu) (res : D) : Prop :=
 ∀ (w : World) (G : Gh) (vs : Array Value), (∀ β, G.S β → β < w.heap.size) →
  (∀ (k : Nat) (x : Bu × Bu), lent[k]? = some x → EA P w G (90000 + k) x.1) →
  (∀ k β, k < lent.length → G.has (90000 + k) β → β < w.heap.size ∧ ¬ G.S β) →
  (∀ k l β, k < lent.length → l < lent.length → G.has (90000 + k) β → G.has (90000 + l) β → k = l) →
  vs.size = args.length → (∀ (j : Nat) (d : D), args[j]? = some d → FV P w G (Ay vs j) d) →
  Calls P f vs w fun e w' => ∃ v G', e = .returned v ∧ CW (NM G lent.length) w.heap.size w w' ∧ (∀ β, G.S β → G'.S β) ∧ (∀ β, G'.S β → G.S β ∨ (w.heap.size ≤ β ∧ β < w'.heap.size)) ∧ FV P w' G' v res ∧
   (∀ (k : Nat) (x : Bu × Bu), lent[k]? = some x → EA P w' G' (90000 + k) x.2) ∧
   (∀ (k : Nat) (x : Bu), rv[k]? = some x → EA P w' G' k x) ∧
   (∀ k, k < lent.length → G'.loc (90000 + k) = G.loc (90000 + k) ∧ G'.hd (90000 + k) = G.hd (90000 + k) ∧ G'.more (90000 + k) = G.more (90000 + k)) ∧
   (∀ k β, k < lent.length → G'.has (90000 + k) β → ¬ G'.S β) ∧
   (∀ k β, k < rv.length → G'.has k β → w.heap.size ≤ β ∧ β < w'.heap.size ∧ ¬ G'.S β) ∧
   (∀ k l β, k < rv.length → l < rv.length → G'.has k β → G'.has l β → k = l)
def Ls (args : List D) (lent : List (Bu × Bu)) : St := ⟨fun s => args[s]?, fun b => if BP b then (lent[b - 90000]?).map (·.1) else none⟩
def LY (bx : Nat → Option Bu) (f : Nat → Nat) : Nat → List (Bu × Bu) → Prop
 | _, [] => True
 | k, x :: xs => bx (90000 + k) = some (x.2.ren f) ∧ LY bx f (k + 1) xs
def M5 (bx : Nat → Option Bu) (f : Nat → Nat) : Nat → List Bu → Prop
 | _, [] => True
 | k, x :: xs => bx (1000 + k) = some (x.ren f) ∧ M5 bx f (k + 1) xs
theorem JN {bx : Nat → Option Bu} {f : Nat → Nat} : ∀ {l : List (Bu × Bu)} {m : Nat}, LY bx f m l → ∀ (k : Nat) (x : Bu × Bu), l[k]? = some x → bx (90000 + (m + k)) = some (x.2.ren f)
 | y :: rv, m, h, 0, x, hk => by simp at hk; subst hk; exact h.1
 | y :: rv, m, h, k + 1, x, hk => by
  have := JN h.2 k x (by simpa using hk)
  rwa [show m + 1 + k = m + (k + 1) from by omega] at this
theorem Kt {bx : Nat → Option Bu} {f : Nat → Nat} : ∀ {l : List Bu} {m : Nat}, M5 bx f m l → ∀ (k : Nat) (x : Bu), l[k]? = some x → bx (1000 + (m + k)) = some (x.ren f)
 | y :: rv, m, h, 0, x, hk => by simp at hk; subst hk; exact h.1
 | y :: rv, m, h, k + 1, x, hk => by
  have := Kt h.2 k x (by simpa using hk)
  rwa [show m + 1 + k = m + (k + 1) from by omega] at this
def Iz (b : Nat) : Nat := if BP b then b else 1000 + b
structure Pf (P : Program) (rs : List ResultVar) (st : St) (lent : List (Bu × Bu)) (rv : List Bu) (res : D) : Prop where
 r : ∃ xs, Ss P st rs xs ∧ R0 xs = res.ren Iz
 l : LY st.bx Iz 0 lent
 v : M5 st.bx Iz 0 rv
def HU (n m : Nat) (l : List Nat) : Bool := l.all (GK n m)
theorem Bf {f n : Nat} {fn : Func} {c : Code} {args : List D} {lent : List (Bu × Bu)} {rv : List Bu} {res : D} {rs : List ResultVar} (hf : P.funcs[f]? = some fn) (hb : fn.body = some c) (hn : fn.ntmps = n) (hrs : fn.results.toList = rs) (hl : args.length ≤ n) (hn9 : n ≤ 90000)
  (hargs : (args.all fun d => HU lent.length 0 d.names) = true) (hpre : (lent.all fun x => HU lent.length 0 x.1.names && x.1.real && x.2.real) = true) (hll : lent.length ≤ 1000) (hrl : (rv.all fun x => x.real) = true) (hrn : rv.length ≤ 1000)
  (h : ∀ (w0 : World) (S0 : Nat → Prop) (GL : Gh), W P ⟨w0, S0, n, GL⟩ c (fun e st => match e with | .normal | .ret => Pf P rs st lent rv res | _ => False) (Ls args lent)) : Bn P f args lent rv res := by
 subst hn; subst hrs
 intro w G vs hS hlb hla hli hlen hrd
 refine calls_of_wp hf hb ?_
 have hcell : ∀ j, j < args.length → Ay (vs ++ Array.replicate (fn.ntmps - vs.size) undef) j = Ay vs j := fun j hj => CR (by omega)
 -- the ghost that knows of what is lent alone
 let dom : Nat → Prop := fun b => BP b = true ∧ b - 90000 < lent.length
 have hdec : ∀ b, Decidable (dom b) := fun b => inferInstanceAs (Decidable (_ ∧ _))
 let GL : Gh := { S := G.S, loc := fun b => if dom b then G.loc b else none, hd := fun b => if dom b then G.hd b else undef, more := fun b => if dom b then G.more b else fun _ => False }
 have hext : G.ext GL dom := ⟨fun _ h => h, fun b hb => if_pos hb, fun b hb => if_pos hb, fun b hb => if_pos hb⟩
 have hdomk : ∀ k, k < lent.length → dom (90000 + k) := fun k hk => ⟨F8 (by omega), by omega⟩
 have hin : ∀ b, GK lent.length 0 b = true → dom b := by
  intro b hb
  unfold GK at hb
  split at hb
  ·rename_i hl; exact ⟨hl, by rwa [Nat.blt_eq] at hb⟩
  ·simp [Nat.blt] at hb
 have hhas : ∀ b β, GL.has b β → dom b ∧ G.has b β := by
  intro b β hb
  by_cases hd : dom b
  ·exact ⟨hd, (hext.has hd).1 hb⟩
  ·exfalso
   unfold Gh.has at hb
   simp only [GL] at hb
   rw [if_neg hd, if_neg hd] at hb
   rcases hb with h | h
   ·cases h
   ·exact h
 have hlent : ∀ β, GL.lent β ↔ NM G lent.length β := by
  intro β
  constructor
  ·rintro ⟨b, hb, hb2⟩
   obtain ⟨hd, hg⟩ := hhas b β hb2
   obtain ⟨k, _, rfl⟩ := H1 hb
   exact ⟨k, by have := hd.2; omega, hg⟩
  ·rintro ⟨k, hk, hg⟩
   exact ⟨90000 + k, F8 (by omega), (hext.has (hdomk k hk)).2 hg⟩
 have hbx : ∀ b k, (Ls args lent).bx b = some k → dom b ∧ ∃ x, lent[b - 90000]? = some x ∧ x.1 = k := by
  intro b k hk
  simp only [Ls] at hk
  split at hk
  ·rename_i hb
   cases hx : lent[b - 90000]? with
   | none => rw [hx] at hk; cases hk
   | some x => rw [hx] at hk; cases hk; exact ⟨⟨hb, AL hx⟩, x, rfl, rfl⟩
  ·cases hk
 have hdn : ∀ b, dom b → ((Ls args lent).bx b).isSome = true := by
  intro b hb
  simp only [Ls]
  rw [if_pos hb.1]
  simp [hb.2]
 have hpre' : ∀ x, x ∈ lent → HU lent.length 0 x.1.names = true ∧ x.1.real = true ∧ x.2.real = true := fun x hx => by
  have := List.all_eq_true.1 hpre x hx
  rw [Bool.and_eq_true, Bool.and_eq_true] at this
  exact ⟨this.1.1, this.1.2, this.2⟩
 have hbk : ∀ b, dom b → b = 90000 + (b - 90000) := fun b hb => by obtain ⟨k, _, e⟩ := H1 hb.1; omega
 have hinit : C5 P ⟨w, G.S, fn.ntmps, GL⟩ GL (Ls args lent) { tmps := vs ++ Array.replicate (fn.ntmps - vs.size) undef, defers := [] } w := by
  refine { S_lt := hS, S_src := fun β h => .inl h, S_0 := fun β h => h, S0_lt := hS, tsz := by simp; omega, defers := rfl, below := CW.refl _ _ _, nlt := hn9, lent := fun _ _ => ⟨rfl, rfl, rfl⟩, blk := ?_, at_ok := ?_, at_inj := ?_, env := ?_, live := ?_, liveB := ?_ }
  ·intro b k hk
   obtain ⟨hd, x, hx, rfl⟩ := hbx b k hk
   have h1 := hlb _ x hx
   rw [← hbk b hd] at h1
   exact h1.mono hext hd (fun _ _ => rfl) (fun _ _ _ => rfl) fun c hc => hin c (List.all_eq_true.1 (hpre' x (List.mem_of_getElem? hx)).1 c hc)
  ·intro b k β hk hr hβ
   obtain ⟨hd, hg⟩ := hhas b β hβ
   rw [hbk b hd] at hg
   have := hla _ β hd.2 hg
   exact ⟨⟨fun h3 => (by rw [hd.1] at h3; cases h3), .inr ⟨b, hd.1, hβ⟩⟩, this.1, this.2⟩
  ·intro b c k l β hk hl hr hr' hβ hβ'
   obtain ⟨hd, hg⟩ := hhas b β hβ
   obtain ⟨hd', hg'⟩ := hhas c β hβ'
   rw [hbk b hd] at hg
   rw [hbk c hd'] at hg'
   have := hli _ _ β hd.2 hd'.2 hg hg'
   rw [hbk b hd, hbk c hd', this]
  ·intro s d hs
   have hs' : args[s]? = some d := hs
   rw [hcell s (AL hs')]
   exact (hrd s d hs').mono hext (fun _ _ => rfl) fun b hb => hin b (List.all_eq_true.1 (List.all_eq_true.1 hargs d (List.mem_of_getElem? hs')) b hb)
  ·intro s d hs b hb
   have hs' : args[s]? = some d := hs
   exact hdn b (hin b (List.all_eq_true.1 (List.all_eq_true.1 hargs d (List.mem_of_getElem? hs')) b hb))
  ·intro b k hk c hc
   obtain ⟨hd, x, hx, rfl⟩ := hbx b k hk
   exact hdn c (hin c (List.all_eq_true.1 (hpre' x (List.mem_of_getElem? hx)).1 c hc))
 refine wp_mono (h w G.S GL _ w ⟨_, hinit⟩) ?_
 rintro e a' w' ⟨st', hq, G2, hs⟩
 have key : Pf P fn.results.toList st' lent rv res → a'.defers = [] ∧ ∃ v, (results fn a'.tmps).run P w' = .ok v w' ∧ ∃ v' G', Ending.returned v = .returned v' ∧ CW (NM G lent.length) w.heap.size w w' ∧ (∀ β, G.S β → G'.S β) ∧ (∀ β, G'.S β → G.S β ∨ (w.heap.size ≤ β ∧ β < w'.heap.size)) ∧ FV P w' G' v' res ∧
   (∀ (k : Nat) (x : Bu × Bu), lent[k]? = some x → EA P w' G' (90000 + k) x.2) ∧
   (∀ (k : Nat) (x : Bu), rv[k]? = some x → EA P w' G' k x) ∧
   (∀ k, k < lent.length → G'.loc (90000 + k) = G.loc (90000 + k) ∧ G'.hd (90000 + k) = G.hd (90000 + k) ∧ G'.more (90000 + k) = G.more (90000 + k)) ∧
   (∀ k β, k < lent.length → G'.has (90000 + k) β → ¬ G'.S β) ∧
   (∀ k β, k < rv.length → G'.has k β → w.heap.size ≤ β ∧ β < w'.heap.size ∧ ¬ G'.S β) ∧
   (∀ k l β, k < rv.length → l < rv.length → G'.has k β → G'.has l β → k = l) := by
  rintro ⟨⟨xs, hr1, hr2⟩, hlp, hv⟩
  obtain ⟨us, h1, h2, h3⟩ := hs.rrs hr1
  have hoL : ∀ k, k < lent.length → Iz (90000 + k) = 90000 + k := fun k hk => by unfold Iz; rw [F8 (by omega)]; rfl
  have hoN : ∀ k, k < rv.length → Iz k = 1000 + k := fun k hk => by unfold Iz; rw [Hq (show k < 1000 by omega) (by omega)]; rfl
  have hbl : ∀ (k : Nat) (x : Bu × Bu), lent[k]? = some x → st'.bx (90000 + k) = some (x.2.ren Iz) := fun k x hk => by
   have := JN hlp k x hk
   rwa [Nat.zero_add] at this
  have hbv : ∀ (k : Nat) (x : Bu), rv[k]? = some x → st'.bx (1000 + k) = some (x.ren Iz) := fun k x hk => by
   have := Kt hv k x hk
   rwa [Nat.zero_add] at this
  have hreal : ∀ (k : Nat) (x : Bu), rv[k]? = some x → (x.ren Iz).real = true := fun k x hk => by
   rw [Hv]; exact List.all_eq_true.1 hrl x (List.mem_of_getElem? hk)
  have hgl : ∀ k, k < lent.length → G2.loc (90000 + k) = G.loc (90000 + k) ∧ G2.hd (90000 + k) = G.hd (90000 + k) ∧ G2.more (90000 + k) = G.more (90000 + k) := fun k hk => by
   obtain ⟨e1, e2, e3⟩ := hs.lent (90000 + k) (F8 (by omega))
   exact ⟨e1.trans (hext.loc _ (hdomk k hk)), e2.trans (hext.hd _ (hdomk k hk)), e3.trans (hext.more _ (hdomk k hk))⟩
  refine ⟨hs.defers, (if h : us.toArray.size = 1 then us.toArray[0] else .tuple us.toArray), ?_, _, { S := G2.S, loc := fun b => G2.loc (Iz b), hd := fun b => G2.hd (Iz b), more := fun b => G2.more (Iz b) }, rfl, ?_, hs.S_0, ?_, ?_, ?_, ?_, ?_, ?_, ?_, ?_⟩
  ·unfold results
   refine Al (a := us.toArray) (w1 := w') ?_ rfl
   rw [Array.mapM_eq_mapM_toList]
   simp only [Sem.run_map]
   exact congrArg (fun r => Result.andThen r fun a w' => Result.ok a.toArray w') h1
  ·have hb := hs.below
   exact ⟨hb.os, hb.tape, hb.output, hb.size, fun k hk hl => hb.block k hk fun h => hl ((hlent k).1 h)⟩
  ·intro β hβ
   rcases hs.S_src β hβ with h | h
   ·exact .inl h
   ·exact .inr ⟨h, hs.S_lt β hβ⟩
  ·refine HL (f := Iz) ?_
   rw [← hr2]
   match xs, us, h2 with
   | [], [], _ => exact ⟨#[], rfl, rfl, fun j x h => by simp at h⟩
   | [x], [u], _ => exact h3 0 u x rfl rfl
   | x :: y :: xs, u :: u' :: us, hl2 =>
    refine ⟨(u :: u' :: us).toArray, by simp, by simpa using hl2, fun j z hj => ?_⟩
    have hlt := AL hj
    have hu : (u :: u' :: us)[j]? = some ((u :: u' :: us)[j]'(by rw [hl2]; exact hlt)) := by rw [List.getElem?_eq_getElem]
    have := h3 j _ z hu hj
    have hc : Ay (u :: u' :: us).toArray j = (u :: u' :: us)[j]'(by rw [hl2]; exact hlt) := by
     unfold Ay
     rw [List.getElem?_toArray, hu]; rfl
    rw [hc]; exact this
  ·intro k x hk
   refine HY (f := Iz) ?_
   rw [hoL k (AL hk)]
   exact hs.blk _ _ (hbl k x hk)
  ·intro k x hk
   refine HY (f := Iz) ?_
   rw [hoN k (AL hk)]
   exact hs.blk _ _ (hbv k x hk)
  ·intro k hk
   simp only [hoL k hk]
   exact hgl k hk
  ·intro k β hk hβ
   have hx : lent[k]? = some lent[k] := by simp [hk]
   have hβ : G2.has (90000 + k) β := by
    unfold Gh.has at hβ ⊢
    simp only [hoL k hk] at hβ
    exact hβ
   exact (hs.at_ok _ _ β (hbl k _ hx) (by rw [Hv]; exact (hpre' _ (List.mem_of_getElem? hx)).2.2) hβ).2.2
  ·intro k β hk hβ
   have hx : rv[k]? = some rv[k] := by simp [hk]
   have hβ : G2.has (1000 + k) β := by
    unfold Gh.has at hβ ⊢
    simp only [hoN k hk] at hβ
    exact hβ
   have := hs.at_ok _ _ β (hbv k _ hx) (hreal k _ hx) hβ
   exact ⟨this.1.1 (Hq (show 1000 + k < 3000 by omega) (by omega)), this.2⟩
  ·intro k l β hk hl hβ hβ'
   have hx : rv[k]? = some rv[k] := by simp [hk]
   have hx' : rv[l]? = some rv[l] := by simp [hl]
   have hβ : G2.has (1000 + k) β := by
    unfold Gh.has at hβ ⊢
    simp only [hoN k hk] at hβ
    exact hβ
   have hβ' : G2.has (1000 + l) β := by
    unfold Gh.has at hβ' ⊢
    simp only [hoN l hl] at hβ'
    exact hβ'
   have := hs.at_inj _ _ _ _ β (hbv k _ hx) (hbv l _ hx') (hreal k _ hx) (hreal l _ hx') hβ hβ'
   omega
 cases e with
 | normal => exact key hq
 | ret => exact key hq
 | _ => exact hq.elim
def nu (ls ns : List Nat) (b : Nat) : Nat := if BP b then ls.getD (b - 90000) 0 else ns.getD b 0
def Lq (f : Nat → Nat) : List Nat → List (Bu × Bu) → List (Nat × Bu)
 | l :: ls, x :: xs => (l, x.1.ren f) :: Lq f ls xs
 | _, _ => []
def G1 (f : Nat → Nat) : List Nat → List (Bu × Bu) → List Bool → List (Nat × Bu) → List (Nat × Bu)
 | l :: ls, x :: xs, c :: cs, r => if c then (l, x.2.ren f) :: G1 f ls xs cs r else G1 f ls xs cs r
 | _, _, _, r => r
def newB (f : Nat → Nat) : List Nat → List Bu → List (Nat × Bu)
 | n :: ns, x :: xs => (n, x.ren f) :: newB f ns xs
 | _, _ => []
def Ok : List (Bu × Bu) → List Bool → Prop
 | x :: xs, c :: cs => (c = false → x.1 = x.2) ∧ Ok xs cs
 | [], [] => True
 | _, _ => False
theorem Lh {f : Nat → Nat} {bx : Nat → Option Bu} : ∀ {ls : List Nat} {lent : List (Bu × Bu)}, ls.length = lent.length → Gm bx (Lq f ls lent) → ∀ (k : Nat) (x : Bu × Bu), lent[k]? = some x → bx (nm ls k) = some (x.1.ren f)
 | [], [], _, _, k, y, hk => by simp at hk
 | l :: ls, x :: xs, hl, h, 0, y, hk => by simp at hk; subst hk; exact h.1
 | l :: ls, x :: xs, hl, h, k + 1, y, hk => by
  have := Lh (ls := ls) (lent := xs) (by simpa using hl) h.2 k y (by simpa using hk)
  simpa [nm] using this
theorem Ly {f : Nat → Nat} {bx : Nat → Option Bu} {r : List (Nat × Bu)} : ∀ {ls : List Nat} {lent : List (Bu × Bu)} {ch : List Bool}, ls.length = lent.length → ls.Nodup → Ok lent ch → (∀ c, c ∈ ls → Bl bx r c = bx c) → Gm bx (Lq f ls lent) →
  (∀ c, c ∉ ls → Bl bx (G1 f ls lent ch r) c = Bl bx r c) ∧ ∀ (k : Nat) (x : Bu × Bu), lent[k]? = some x → Bl bx (G1 f ls lent ch r) (nm ls k) = some (x.2.ren f)
 | [], [], [], _, _, _, _, _ => ⟨fun _ _ => rfl, fun k x h => by simp at h⟩
 | [], [], _ :: _, _, _, h, _, _ => h.elim
 | l :: ls, x :: xs, [], hl, hnd, hc, hr, hp => by cases hc
 | l :: ls, x :: xs, c :: cs, hl, hnd, hc, hr, hp => by
  have ih := Ly (f := f) (bx := bx) (r := r) (ls := ls) (lent := xs) (ch := cs) (by simpa using hl) (List.nodup_cons.1 hnd).2 hc.2 (fun c hc => hr c (by simp [hc])) hp.2
  have hln : l ∉ ls := (List.nodup_cons.1 hnd).1
  have hl0 : Bl bx (G1 f ls xs cs r) l = bx l := (ih.1 l hln).trans (hr l (by simp))
  refine ⟨fun d hd => ?_, fun k y hk => ?_⟩
  ·simp only [List.mem_cons, not_or] at hd
   simp only [G1]
   split
   ·simp only [Bl]; rw [if_neg hd.1]; exact ih.1 d hd.2
   ·exact ih.1 d hd.2
  ·cases k with
   | zero =>
    simp at hk; subst hk
    simp only [G1, nm, List.getD_cons_zero]
    split
    ·simp [Bl]
    ·rename_i hcc
     have hcf : c = false := by simpa using hcc
     rw [hl0, hp.1, hc.1 hcf]
   | succ k =>
    have hk' : xs[k]? = some y := by simpa using hk
    have hlt := AL hk'
    have hlt2 : k < ls.length := by simp at hl; omega
    have e : nm (l :: ls) (k + 1) = nm ls k := by simp [nm]
    rw [e]
    have hne : nm ls k ≠ l := fun h => hln (h ▸ En hlt2)
    simp only [G1]
    split
    ·simp only [Bl]; rw [if_neg hne]; exact ih.2 k y hk'
    ·exact ih.2 k y hk'
theorem Kl {f : Nat → Nat} {bx : Nat → Option Bu} : ∀ {ns : List Nat} {rv : List Bu} {c : Nat}, ns.length = rv.length → ns.Nodup →
  (c ∉ ns → Bl bx (newB f ns rv) c = bx c) ∧ ∀ (k : Nat) (x : Bu), rv[k]? = some x → Bl bx (newB f ns rv) (nm ns k) = some (x.ren f)
 | [], [], c, _, _ => ⟨fun _ => rfl, fun k x h => by simp at h⟩
 | n :: ns, x :: xs, c, hl, hnd => by
  have ih := Kl (f := f) (bx := bx) (ns := ns) (rv := xs) (c := c) (by simpa using hl) (List.nodup_cons.1 hnd).2
  refine ⟨fun hc => ?_, fun k y hk => ?_⟩
  ·simp only [List.mem_cons, not_or] at hc
   simp only [newB, Bl]
   rw [if_neg hc.1]; exact ih.1 hc.2
  ·cases k with
   | zero => simp at hk; subst hk; simp [newB, Bl, nm]
   | succ k =>
    have hk' : xs[k]? = some y := by simpa using hk
    have hlt := AL hk'
    have hlt2 : k < ns.length := by simp at hl; omega
    have : nm (n :: ns) (k + 1) = nm ns k := by simp [nm]
    rw [this]
    have hne : nm ns k ≠ n := fun e => (List.nodup_cons.1 hnd).1 (e ▸ En hlt2)
    simp only [newB, Bl]
    rw [if_neg hne]
    exact (Kl (f := f) (bx := bx) (ns := ns) (rv := xs) (c := c) (by simpa using hl) (List.nodup_cons.1 hnd).2).2 k y hk'
theorem zFS {ls ns : List Nat} {k : Nat} (h : k < 1000) : nu ls ns (90000 + k) = nm ls k := by
 unfold nu nm; rw [F8 h, if_pos rfl, show 90000 + k - 90000 = k from by omega]
theorem JK {ls ns : List Nat} {k : Nat} (h : k < 90000) : nu ls ns k = nm ns k := by
 unfold nu nm; rw [Hq h (Nat.le_refl _), if_neg (by simp)]
theorem KT {bx : Nat → Option Bu} {c : Nat} : ∀ {wb : List (Nat × Bu)}, (bx c).isSome = true → (Bl bx wb c).isSome = true
 | [], h => h
 | p :: ps, h => by
  simp only [Bl]; split
  ·rfl
  ·exact KT h
section run
variable {dr : Bool} {Q : St → Prop} {r i : Nat} {st : St} {log : List (Nat × CL)} {o : Oper} {gs : List (Operand × D)}
theorem CH {f s : Nat} {xs : List Operand} {ds0 ds : List D} {lent : List (Bu × Bu)} {rv : List Bu} {res : D} {ts : Array TypeId} (ls ns : List Nat) (ch : List Bool) (hc : Bn P f ds lent rv res) (hat : At st.env ops i X.n (.call ⟨.value (.func f), xs.toArray, ts⟩) s gs)
  (hf : AE P f = true) (hl : xs.length = ds0.length) (hx : EZ st.env (Hx xs ds0)) (hds : ds0.map D.nrm = ds.map (D.ren (nu ls ns)))
  (hll : ls.length = lent.length) (hln : ls.Nodup) (hlb : Gm st.bx (Lq (nu ls ns) ls lent)) (hns : ns.length = rv.length) (hndl : KS ns) (hnew : KI st.bx ns) (hch : Ok lent ch)
  (hlim : (Nat.ble lent.length 1000 && Nat.ble rv.length 1000) = true) (hre : (lent.all fun x => x.1.real && x.2.real) = true)
  (hnm : (HU lent.length rv.length res.names && (lent.all fun x => HU lent.length rv.length x.2.names) && rv.all fun x => HU lent.length rv.length x.names) = true)
  (next : Bk P X ops dr Q r (i + 1) (CL.upd ⟨gs ++ Hx xs ds0, Lq (nu ls ns) ls lent, some s, some (res.ren (nu ls ns)), G1 (nu ls ns) ls lent ch (newB (nu ls ns) ns rv), ns⟩ st) ((i, ⟨gs ++ Hx xs ds0, Lq (nu ls ns) ls lent, some s, some (res.ren (nu ls ns)), G1 (nu ls ns) ls lent ch (newB (nu ls ns) ns rv), ns⟩) :: log)) : Bk P X ops dr Q (r + 1) i st log := by
 obtain ⟨o, ho, hop, hd, hn, hg, hgp⟩ := hat.out
 have hnd := hndl.1
 rw [Bool.and_eq_true] at hlim
 have hlim1 := Nat.le_of_ble_eq_true hlim.1
 have hlim2 := Nat.le_of_ble_eq_true hlim.2
 rw [Bool.and_eq_true, Bool.and_eq_true] at hnm
 obtain ⟨⟨hnmR, hnmL⟩, hnmV⟩ := hnm
 have hre' : ∀ x, x ∈ lent → x.1.real = true ∧ x.2.real = true := fun x hx => by
  have := List.all_eq_true.1 hre x hx
  rw [Bool.and_eq_true] at this
  exact this
 refine Bk.step next ⟨Au.2 ⟨hgp, hx⟩, hlb, hnew⟩ ?_
 intro st a w K Q' hs hpre hK
 obtain ⟨G, hs⟩ := hs
 have hx := (Au.1 hpre.r).2
 have hw := hs.wanted hg (Au.1 hpre.r).1
 have hnew := hpre.n
 have hlb := hpre.b
 have hnew' : ∀ c, c ∈ ns → st.bx c = none := by
  have : ∀ {l : List Nat}, KI st.bx l → ∀ c, c ∈ l → st.bx c = none := by
   intro l
   induction l with
   | nil => intro _ c hc; cases hc
   | cons b l ih =>
    intro h c hc
    rcases List.mem_cons.1 hc with e | e
    ·subst e; exact h.1
    ·exact ih h.2 c e
  exact this hnew
 have hget := fun k x hk => Lh (f := nu ls ns) hll hlb k x hk
 have hlk : ∀ k, k < lent.length → st.bx (nm ls k) = some (lent[k]!.1.ren (nu ls ns)) ∧ (lent[k]!.1.ren (nu ls ns)).real = true := fun k hk => by
  have hx0 : lent[k]? = some lent[k]! := by simp [hk]
  exact ⟨hget k _ hx0, by rw [Hv]; exact (hre' _ (List.mem_of_getElem? hx0)).1⟩
 have hlsns : ∀ c, c ∈ ls → c ∉ ns := fun c hc hm => by
  obtain ⟨k, hk, e⟩ := KC hc
  have := (hlk k (by omega)).1
  rw [e, hnew' c hm] at this; cases this
 unfold wpOp
 rw [ho]
 simp only [hw, if_true]
 refine .inl ?_
 unfold Oper.wp
 have hrun : (execOp a.eval o).run P w = .ok (.enter f (xs.toArray.map a.eval)) w := by
  simp only [execOp, hop]
  exact GS hf rfl
 rw [hrun]
 show Calls P f (xs.toArray.map a.eval) w _
 let Gc : Gh := { S := G.S, loc := fun b => G.loc (nu ls ns b), hd := fun b => G.hd (nu ls ns b), more := fun b => G.more (nu ls ns b) }
 have hGc : ∀ k β, k < lent.length → (Gc.has (90000 + k) β ↔ G.has (nm ls k) β) := fun k β hk => by
  unfold Gh.has; simp only [Gc]; rw [zFS (by omega)]
 refine (hc w Gc (xs.toArray.map a.eval) hs.S_lt ?_ ?_ ?_ ?_ ?_).mono ?_
 ·intro k x hk
  refine HY (f := nu ls ns) ?_
  rw [zFS (by have := AL hk; omega)]
  exact hs.blk _ _ (hget k x hk)
 ·intro k β hk hβ
  have h1 := hlk k hk
  exact (hs.at_ok _ _ β h1.1 h1.2 ((hGc k β hk).1 hβ)).2
 ·intro k l β hk hl' hβ hβ'
  have h1 := hlk k hk
  have h2 := hlk l hl'
  have := hs.at_inj _ _ _ _ β h1.1 h2.1 h1.2 h2.2 ((hGc k β hk).1 hβ) ((hGc l β hl').1 hβ')
  exact LL hln (by omega) (by omega) this
 ·have h1 := congrArg List.length hds
  simp at h1
  simp; omega
 ·intro j d hj
  have hj2 : (ds.map (D.ren (nu ls ns)))[j]? = some (d.ren (nu ls ns)) := by rw [List.getElem?_map, hj]; rfl
  rw [← hds, List.getElem?_map] at hj2
  obtain ⟨d0, hj0, hd0⟩ : ∃ d0, ds0[j]? = some d0 ∧ d0.nrm = d.ren (nu ls ns) := by
   cases hx0 : ds0[j]? with
   | none => rw [hx0] at hj2; cases hj2
   | some d0 => rw [hx0] at hj2; exact ⟨d0, rfl, by simpa using hj2⟩
  have hlt := AL hj0
  have hxj : xs[j]? = some (xs[j]'(by omega)) := by simp [show j < xs.length from by omega]
  have hop' := Hw hl hx j _ d0 hxj hj0
  have hcell : Ay (xs.toArray.map a.eval) j = a.eval (xs[j]'(by omega)) := by simp [Ay, show j < xs.length from by omega]
  rw [hcell]
  refine HL (f := nu ls ns) ?_
  rw [← hd0]
  exact (hs.opd hop').nrm
 ·rintro e w' ⟨v, G', rfl, hbel, hS1, hS2, hres', hpost, hvec, hsame, hlS, hvat, hvinj⟩
  show K (a.put o.dst v) w'
  rw [hd]
  let G2 : Gh := { S := G'.S, loc := fun c => if c ∈ ns then G'.loc (ns.idxOf c) else G.loc c, hd := fun c => if c ∈ ns then G'.hd (ns.idxOf c) else G.hd c, more := fun c => if c ∈ ns then G'.more (ns.idxOf c) else G.more c }
  have hidx : ∀ k, k < ns.length → ns.idxOf (nm ns k) = k := by
   intro k hk
   have hm := En hk
   have h1 : ns.idxOf (nm ns k) < ns.length := List.idxOf_lt_length_of_mem hm
   refine LL hnd h1 hk ?_
   have h2 := List.getElem_idxOf h1
   show ns.getD (ns.idxOf (nm ns k)) 0 = nm ns k
   rw [List.getD_eq_getElem?_getD, List.getElem?_eq_getElem h1, Option.getD_some, h2]
  have hvia : G'.via G2 (nu ls ns) (fun b => GK lent.length rv.length b = true) := by
   have key : ∀ b, GK lent.length rv.length b = true → (∃ k, k < lent.length ∧ b = 90000 + k) ∨ (b < rv.length ∧ BP b = false) := by
    intro b hb
    unfold GK at hb
    split at hb
    ·rename_i h
     obtain ⟨k, _, rfl⟩ := H1 h
     rw [Nat.blt_eq] at hb
     exact .inl ⟨k, by omega, rfl⟩
    ·rename_i h
     rw [Nat.blt_eq] at hb
     exact .inr ⟨hb, by simpa using h⟩
   refine ⟨fun β h => h, fun b hb => ?_, fun b hb => ?_, fun b hb => ?_⟩
   ·rcases key b hb with ⟨k, hk, rfl⟩ | ⟨hb1, hb2⟩
    ·rw [zFS (by omega)]
     have hni : nm ls k ∉ ns := hlsns _ (En (by omega))
     simp only [G2]; rw [if_neg hni, (hsame k hk).1]; simp only [Gc]; rw [zFS (by omega)]
    ·rw [JK (by omega)]
     simp only [G2]; rw [if_pos (En (by omega)), hidx b (by omega)]
   ·rcases key b hb with ⟨k, hk, rfl⟩ | ⟨hb1, hb2⟩
    ·rw [zFS (by omega)]
     have hni : nm ls k ∉ ns := hlsns _ (En (by omega))
     simp only [G2]; rw [if_neg hni, (hsame k hk).2.1]; simp only [Gc]; rw [zFS (by omega)]
    ·rw [JK (by omega)]
     simp only [G2]; rw [if_pos (En (by omega)), hidx b (by omega)]
   ·rcases key b hb with ⟨k, hk, rfl⟩ | ⟨hb1, hb2⟩
    ·rw [zFS (by omega)]
     have hni : nm ls k ∉ ns := hlsns _ (En (by omega))
     simp only [G2]; rw [if_neg hni, (hsame k hk).2.2]; simp only [Gc]; rw [zFS (by omega)]
    ·rw [JK (by omega)]
     simp only [G2]; rw [if_pos (En (by omega)), hidx b (by omega)]
  have hext : G.ext G2 (fun b => (st.bx b).isSome = true) := by
   have : ∀ b, (st.bx b).isSome = true → b ∉ ns := fun b hb hm => by rw [hnew' b hm] at hb; cases hb
   exact ⟨fun β h => hS1 β h, fun b hb => by simp only [G2]; rw [if_neg (this b hb)], fun b hb => by simp only [G2]; rw [if_neg (this b hb)], fun b hb => by simp only [G2]; rw [if_neg (this b hb)]⟩
  have hnotL : ∀ β, NM Gc lent.length β → ∃ k, k < lent.length ∧ G.has (nm ls k) β := fun β ⟨k, hk, hb⟩ => ⟨k, hk, (hGc k β hk).1 hb⟩
  have hwS : ∀ β, G.S β → w'.heap[β]? = w.heap[β]? := fun β hβ => hbel.block β (hs.S_lt β hβ) fun h => by
   obtain ⟨k, hk, hg⟩ := hnotL β h
   exact (hs.at_ok _ _ β (hlk k hk).1 (hlk k hk).2 hg).2.2 hβ
  have hsz := hbel.size
  have hle := hs.below.size
  have hng := fun c => Kl (f := nu ls ns) (bx := st.bx) (ns := ns) (rv := rv) (c := c) hns hnd
  have hbg := Ly (f := nu ls ns) (bx := st.bx) (r := newB (nu ls ns) ns rv) (ls := ls) (lent := lent) (ch := ch) hll hln hch (fun c hc => (hng c).1 (hlsns c hc)) hlb
  have hblk : ∀ c k, Bl st.bx (G1 (nu ls ns) ls lent ch (newB (nu ls ns) ns rv)) c = some k →
    (c ∉ ns ∧ c ∉ ls ∧ st.bx c = some k) ∨ (∃ m x, m < ns.length ∧ nm ns m = c ∧ rv[m]? = some x ∧ k = x.ren (nu ls ns)) ∨ (∃ m x, m < ls.length ∧ nm ls m = c ∧ lent[m]? = some x ∧ k = x.2.ren (nu ls ns)) := by
   intro c k hc
   by_cases hm : c ∈ ls
   ·obtain ⟨m, hm1, hm2⟩ := KC hm
    have hlx : lent[m]? = some (lent[m]'(by omega)) := by simp [show m < lent.length from by omega]
    have := hbg.2 m _ hlx
    rw [hm2, hc] at this
    exact .inr (.inr ⟨m, _, hm1, hm2, hlx, by simpa using this⟩)
   ·rw [hbg.1 c hm] at hc
    by_cases hm2 : c ∈ ns
    ·obtain ⟨m, hm1, hm3⟩ := KC hm2
     have hrx : rv[m]? = some (rv[m]'(by omega)) := by simp [show m < rv.length from by omega]
     have := (hng c).2 m _ hrx
     rw [hm3, hc] at this
     exact .inr (.inl ⟨m, _, hm1, hm3, hrx, by simpa using this⟩)
    ·rw [(hng c).1 hm2] at hc; exact .inl ⟨hm2, hm, hc⟩
  have hdom : ∀ b, GK lent.length rv.length b = true → (Bl st.bx (G1 (nu ls ns) ls lent ch (newB (nu ls ns) ns rv)) (nu ls ns b)).isSome = true := by
   intro b hb
   unfold GK at hb
   split at hb
   ·rename_i h
    obtain ⟨k, _, rfl⟩ := H1 h
    rw [Nat.blt_eq] at hb
    have hk : k < lent.length := by omega
    rw [zFS (by omega), hbg.2 k _ (show lent[k]? = some lent[k] by simp [hk])]; rfl
   ·rename_i h
    rw [Nat.blt_eq] at hb
    have hni : nm ns b ∉ ls := fun hm => hlsns _ hm (En (by omega))
    rw [JK (by omega), hbg.1 _ hni, (hng (nm ns b)).2 b _ (show rv[b]? = some rv[b] by simp [hb])]; rfl
  have hren : ∀ l : List Nat, HU lent.length rv.length l = true → ∀ b, b ∈ l → GK lent.length rv.length b = true := fun l h b hb => List.all_eq_true.1 h b hb
  have hrenB : ∀ (k : Bu) b, b ∈ (k.ren (nu ls ns)).names → ∃ b0, b0 ∈ k.names ∧ b = nu ls ns b0 := by
   intro k b hb
   cases k with
   | box cs =>
    obtain ⟨c, hc, hb⟩ := A6.1 hb
    obtain ⟨c0, h0, rfl⟩ := List.mem_map.1 hc
    obtain ⟨b0, h1, h2⟩ := It hb
    exact ⟨b0, A6.2 ⟨c0, h0, h1⟩, h2⟩
   | vec e rows => cases hb
   | mp es => cases hb
   | dvec e cols rs => cases hb
   | hol e cols i0 k0 c rs => exact ⟨c, by simp [Bu.names], by simpa [Bu.ren, Bu.names] using hb⟩
   | gone => cases hb
  have hhasN : ∀ m β, m < ns.length → (G2.has (nm ns m) β ↔ G'.has m β) := fun m β hm => by
   have hmd : GK lent.length rv.length m = true := by
    unfold GK; rw [Hq (show m < 90000 by omega) (Nat.le_refl _), if_neg (by simp), Nat.blt_eq]; omega
   have := hvia.has (β := β) hmd
   rwa [JK (by omega)] at this
  have key : C5 P X G2 ⟨st.env, Bl st.bx (G1 (nu ls ns) ls lent ch (newB (nu ls ns) ns rv))⟩ a w' := by
   refine hs.frame (fun c hc => KT hc) hext hwS ?_ ?_ ?_ ?_ ?_ ?_ (fun b hb => by
    have : b ∉ ns := fun hm => by rw [hndl.2 b hm] at hb; cases hb
    simp only [G2]; rw [if_neg this, if_neg this, if_neg this]; exact ⟨rfl, rfl, rfl⟩)
   ·intro c k hc
    rcases hblk c k hc with ⟨_, h0, h1⟩ | ⟨m, x, h1, h2, h3, h4⟩ | ⟨m, x, h1, h2, h3, h4⟩
    ·refine .inl ⟨h1, fun β hr hβ => hbel.block β (hs.at_ok c k β h1 hr hβ).2.1 fun hL => ?_⟩
     obtain ⟨j, hj, hg⟩ := hnotL β hL
     exact h0 ((hs.at_inj _ _ _ _ β h1 (hlk j hj).1 hr (hlk j hj).2 hβ hg) ▸ En (by omega))
    ·subst h4
     have hmd : GK lent.length rv.length m = true := by
      unfold GK; rw [Hq (show m < 90000 by omega) (Nat.le_refl _), if_neg (by simp), Nat.blt_eq]; omega
     have hxn := hren _ (List.all_eq_true.1 hnmV x (List.mem_of_getElem? h3))
     refine .inr ⟨?_, fun c' hc' => ?_⟩
     ·have := (hvec m x h3).ren hvia hmd hxn
      rwa [JK (by omega), h2] at this
     ·obtain ⟨b0, hb0, rfl⟩ := hrenB x c' hc'
      exact hdom b0 (hxn b0 hb0)
    ·subst h4
     have hmd : GK lent.length rv.length (90000 + m) = true := by
      unfold GK; rw [F8 (by omega), if_pos rfl, Nat.blt_eq]; omega
     have hxn := hren _ (List.all_eq_true.1 hnmL x (List.mem_of_getElem? h3))
     refine .inr ⟨?_, fun c' hc' => ?_⟩
     ·have := (hpost m x h3).ren hvia hmd hxn
      rwa [zFS (by omega), h2] at this
     ·obtain ⟨b0, hb0, rfl⟩ := hrenB x.2 c' hc'
      exact hdom b0 (hxn b0 hb0)
   ·intro c k β hc hr hβ
    rcases hblk c k hc with ⟨h0, _, h1⟩ | ⟨m, x, h1, h2, h3, h4⟩ | ⟨m, x, h1, h2, h3, h4⟩
    ·have hβ := (hext.has (by rw [h1]; rfl)).1 hβ
     have := hs.at_ok c k β h1 hr hβ
     refine ⟨this.1, by omega, fun h => ?_⟩
     rcases hS2 β h with h | h
     ·exact this.2.2 h
     ·omega
    ·rw [← h2, hhasN m β h1] at hβ
     have := hvat m β (by omega) hβ
     exact ⟨.new (by omega), this.2.1, this.2.2⟩
    ·subst h2
     have h5 := hlk m (by omega)
     have hβ := (hext.has (by rw [h5.1]; rfl)).1 hβ
     have := hs.at_ok _ _ β h5.1 h5.2 hβ
     refine ⟨this.1, by omega, hlS m β (by omega) ?_⟩
     have h6 := hsame m (by omega)
     unfold Gh.has at hβ ⊢
     rw [h6.1, h6.2.2]
     simp only [Gc]; rw [zFS (by omega)]; exact hβ
   ·intro c c' k k' β hc hc' hr hr' hβ hβ'
    have old : ∀ c k, Bl st.bx (G1 (nu ls ns) ls lent ch (newB (nu ls ns) ns rv)) c = some k → k.real = true → G2.has c β → (∃ k0, st.bx c = some k0 ∧ k0.real = true ∧ G.has c β) ∨ ∃ m, m < ns.length ∧ nm ns m = c ∧ G'.has m β := by
     intro c k hc hr hβ
     rcases hblk c k hc with ⟨h0, _, h1⟩ | ⟨m, x, h1, h2, h3, h4⟩ | ⟨m, x, h1, h2, h3, h4⟩
     ·exact .inl ⟨k, h1, hr, (hext.has (by rw [h1]; rfl)).1 hβ⟩
     ·rw [← h2, hhasN m β h1] at hβ
      exact .inr ⟨m, h1, h2, hβ⟩
     ·subst h2
      have h5 := hlk m (by omega)
      exact .inl ⟨_, h5.1, h5.2, (hext.has (by rw [h5.1]; rfl)).1 hβ⟩
    rcases old c k hc hr hβ with ⟨k0, h1, h2, h3⟩ | ⟨m, h1, h2, h3⟩ <;> rcases old c' k' hc' hr' hβ' with ⟨k0', h1', h2', h3'⟩ | ⟨m', h1', h2', h3'⟩
    ·exact hs.at_inj c c' k0 k0' β h1 h1' h2 h2' h3 h3'
    ·have h5 := hvat m' β (by omega) h3'
     have h6 := (hs.at_ok c k0 β h1 h2 h3).2.1
     omega
    ·have h5 := hvat m β (by omega) h3
     have h6 := (hs.at_ok c' k0' β h1' h2' h3').2.1
     omega
    ·have := hvinj m m' β (by omega) (by omega) h3 h3'
     rw [← h2, ← h2', this]
   ·intro β h
    rcases hS2 β h with h | h
    ·have := hs.S_lt β h; omega
    ·exact h.2
   ·intro β h
    rcases hS2 β h with h | h
    ·exact hs.S_src β h
    ·exact .inr (by omega)
   ·refine hs.below.trans ⟨hbel.os, hbel.tape, hbel.output, hbel.size, fun k hk hnl => hbel.block k (by omega) fun hL => ?_⟩
    obtain ⟨j, hj, hg⟩ := hnotL k hL
    rcases (hs.at_ok _ _ k (hlk j hj).1 (hlk j hj).2 hg).1.2 with h | h
    ·omega
    ·exact hnl h
  refine hK _ _ ⟨G2, key.put (some s) (some (res.ren (nu ls ns))) v (by intro t e; cases e; exact hn) ?_⟩
  rintro d ⟨⟩
  refine ⟨hres'.ren hvia (hren _ hnmR), fun b hb => ?_⟩
  obtain ⟨b0, h1, h2⟩ := Ie hb
  rw [h2]
  exact hdom b0 (hren _ hnmR b0 h1)
end run
end Go.Lift

/- Parts of a call's own slices: cut, copied into, appended to in place, cleared. No condition. -/
namespace Go.Lift
open Go.RowKit
variable {P : Program} {X : H3} {ops : Array Oper}
def Hz {α : Type} (xs : List α) (q : Nat) (ys : List α) : List α := xs.take q ++ ys ++ xs.drop (q + ys.length)
theorem HS {α : Type} {xs ys : List α} {q : Nat} (h : q + ys.length ≤ xs.length) : (Hz xs q ys).length = xs.length := by
 unfold Hz; simp; omega
theorem NE {α : Type} {xs ys : List α} {q : Nat} (h : q + ys.length ≤ xs.length) (i : Nat) : (Hz xs q ys)[i]? = if q ≤ i ∧ i < q + ys.length then ys[i - q]? else xs[i]? := by
 unfold Hz
 by_cases h1 : i < q
 ·rw [if_neg (by omega), List.append_assoc, List.getElem?_append_left (by simp; omega), List.getElem?_take_of_lt h1]
 ·by_cases h2 : i < q + ys.length
  ·rw [if_pos (by omega), List.getElem?_append_left (by simp; omega), List.getElem?_append_right (by simp; omega)]
   congr 1; simp; omega
  ·rw [if_neg (by omega), List.getElem?_append_right (by simp; omega), List.getElem?_drop]
   congr 1; simp; omega
theorem NN {α β : Type} (f : α → β) (xs ys : List α) (q : Nat) : Hz (xs.map f) q (ys.map f) = (Hz xs q ys).map f := by
 unfold Hz; simp
inductive J3 : D → Nat → Nat → List (List T) → Nat → Nat → Prop where
 | own (b e : Nat) (rows : List (List T)) : J3 (.e (.one (.own b))) b e rows 0 rows.length
 | view (b e : Nat) (rows : List (List T)) (lo len : Nat) (h : lo + len ≤ rows.length) : J3 (.e (.one (.view b e lo len))) b e rows lo len
inductive La : D → List (Nat × Bu) → Nat → List (List T) → Prop where
 | of {d : D} {rb : List (Nat × Bu)} {e : Nat} {rows : List (List T)} (h : Rl d rb e rows) : La d rb e rows
 | view (b e : Nat) (rows : List (List T)) (lo len : Nat) (h : lo + len ≤ rows.length) : La (.e (.one (.view b e lo len))) [(b, .vec e rows)] e ((rows.drop lo).take len)
theorem LA (q : Addr) : q.add 0 = q := by unfold Addr.add; simp
theorem Kh {G : Gh} {w : World} {b e : Nat} {rows : List (List T)} (h : EA P w G b (.vec e rows)) : ∃ a cap, G.hd b = .slice a rows.length cap ∧ rows.length ≤ cap ∧
  (0 < cap → ∃ β arr el, a = some ⟨β, 0, none⟩ ∧ G.loc b = some β ∧ w.heap[β]? = some (.cells arr el (0, 0)) ∧ arr.size = cap * e ∧ De w G.S arr e 0 rows) := by
 rcases h with ⟨a, h1, h2, _⟩ | ⟨β, cap, arr, el, h0, h1, h2, h3, h4, h5, h6⟩
 ·subst h2; exact ⟨a, 0, h1, Nat.le_refl _, fun h => by cases h⟩
 ·exact ⟨_, cap, h1, h3, fun _ => ⟨β, arr, el, rfl, h0, h2, h4, by rw [h4, Nat.zero_add]; exact Nat.mul_le_mul_right e h3, h5, fun i row j t hi hj => by rw [Nat.zero_add]; exact h6 i row j t hi hj⟩⟩
section run
variable {dr : Bool} {Q : St → Prop} {r i : Nat} {st : St} {log : List (Nat × CL)} {o : Oper} {gs : List (Operand × D)}
theorem C5.dstV {G : Gh} {a : Act} {w : World} (hs : C5 P X G st a w) {x : Operand} {d : D} {b e lo len : Nat} {rows : List (List T)} (hx : Lift.opd st.env x = some d) (h : J3 d b e rows lo len) (hb : st.bx b = some (.vec e rows)) :
  ∃ p cap', a.eval x = .slice p len cap' ∧ rows.length - lo ≤ cap' ∧ lo + len ≤ rows.length ∧
   (lo < rows.length → ∃ β cap arr el, G.loc b = some β ∧ G.hd b = .slice (some ⟨β, 0, none⟩) rows.length cap ∧ rows.length ≤ cap ∧ p = some ⟨β, lo * e, none⟩ ∧ w.heap[β]? = some (.cells arr el (0, 0)) ∧ arr.size = cap * e ∧ De w G.S arr e 0 rows) := by
 obtain ⟨a0, cap, h1, h2, h3⟩ := Kh (hs.blk b _ hb)
 have hR := hs.opd hx
 cases h with
 | own =>
  obtain ⟨hR, _⟩ : Ev P w G (a.eval x) (.own b) := hR
  refine ⟨a0, cap, hR.trans h1, by omega, by omega, fun hlt => ?_⟩
  obtain ⟨β, arr, el, g1, g2, g3, g4, g5⟩ := h3 (by omega)
  subst g1
  exact ⟨β, cap, arr, el, g2, h1, h2, by simp, g3, g4, g5⟩
 | view _ _ _ _ _ h =>
  obtain ⟨a1, n1, cap1, p, k1, k2, k3, k4⟩ : Ev P w G (a.eval x) (.view b e lo len) := hR
  rw [h1] at k1
  cases k1
  refine ⟨p, cap - lo, k3, by omega, h, fun hlt => ?_⟩
  obtain ⟨β, arr, el, g1, g2, g3, g4, g5⟩ := h3 (by omega)
  subst g1
  refine ⟨β, cap, arr, el, g2, h1, h2, ?_, g3, g4, g5⟩
  rw [k4 (by omega)]
  simp [Addr.add_mk]
theorem C5.srcW {G : Gh} {a : Act} {w : World} (hs : C5 P X G st a w) {x : Operand} {d : D} {rb : List (Nat × Bu)} {e : Nat} {rows : List (List T)} (hx : Lift.opd st.env x = some d) (h : La d rb e rows) (hb : Gm st.bx rb) :
  ∃ p cap, a.eval x = .slice p rows.length cap ∧ (rows = [] ∨ ∃ β off arr el fz, p = some ⟨β, off, none⟩ ∧ w.heap[β]? = some (.cells arr el fz) ∧ De w G.S arr e off rows) := by
 cases h with
 | of h =>
  have hR := hs.opd hx
  cases h with
  | own b e rows =>
   obtain ⟨hR, _⟩ : Ev P w G (a.eval x) (.own b) := hR
   obtain ⟨a0, cap, h1, h2, h3⟩ := Kh (hs.blk b _ hb.1)
   refine ⟨a0, cap, hR.trans h1, ?_⟩
   cases rows with
   | nil => exact .inl rfl
   | cons y ys =>
    obtain ⟨β, arr, el, g1, g2, g3, g4, g5⟩ := h3 (by simp at h2; omega)
    exact .inr ⟨β, 0, arr, el, (0, 0), g1, g3, g5⟩
  | sl e rows hrow =>
   have hR : Dr w G.S (a.eval x) (.sl rows) := hR
   generalize a.eval x = v at hR
   cases hR with
   | nil a' cap => exact ⟨_, _, rfl, .inl rfl⟩
   | sl β off cap e' arr el' fz rows h1 h2 h3 h4 h5 h6 =>
    refine ⟨_, _, rfl, ?_⟩
    cases rows with
    | nil => exact .inl rfl
    | cons r0 rs =>
     have he : e' = e := by rw [← hrow 0 r0 rfl]; exact (h5 0 r0 rfl).symm
     subst he
     exact .inr ⟨β, off, arr, el', fz, rfl, h2, h4, h5, h6⟩
  | nil e =>
   have hR : Dr w G.S (a.eval x) .nil0 := hR
   generalize a.eval x = v at hR
   cases hR with
   | nil0 a' => exact ⟨_, _, rfl, .inl rfl⟩
 | view b _ rows lo len h =>
  obtain ⟨p, cap', h1, h2, h3, h4⟩ := hs.dstV hx (.view b e rows lo len h) hb.1
  have hlen : ((rows.drop lo).take len).length = len := by simp; omega
  refine ⟨p, cap', by rw [hlen]; exact h1, ?_⟩
  by_cases hz : len = 0
  ·exact .inl (by rw [hz, List.take_zero])
  ·obtain ⟨β, cap, arr, el, g1, g2, g3, g4, g5, g6, g7⟩ := h4 (by omega)
   refine .inr ⟨β, lo * e, arr, el, (0, 0), g4, g5, ?_, ?_, ?_⟩
   ·rw [hlen, g6, ← Nat.add_mul]; exact Nat.mul_le_mul_right e (by omega)
   ·intro i row hi
    have := AL hi
    rw [hlen] at this
    rw [List.getElem?_take_of_lt this, List.getElem?_drop] at hi
    exact g7.2.1 _ row hi
   ·intro i row j t hi hj
    have := AL hi
    rw [hlen] at this
    rw [List.getElem?_take_of_lt this, List.getElem?_drop] at hi
    have := g7.2.2 _ row j t hi hj
    rwa [Nat.zero_add, Nat.add_mul] at this
theorem De.take {w : World} {S : Nat → Prop} {arr : Array Value} {e off n : Nat} {rows : List (List T)} (h : De w S arr e off rows) : De w S arr e off (rows.take n) := by
 refine ⟨?_, ?_, ?_⟩
 ·have := h.1
  have h2 : (rows.take n).length * e ≤ rows.length * e := Nat.mul_le_mul_right e (by simp; omega)
  omega
 ·intro i row hi
  have := AL hi
  simp at this
  rw [List.getElem?_take_of_lt (by omega)] at hi
  exact h.2.1 i row hi
 ·intro i row j t hi hj
  have := AL hi
  simp at this
  rw [List.getElem?_take_of_lt (by omega)] at hi
  exact h.2.2 i row j t hi hj
theorem LW {w : World} {S : Nat → Prop} {p : Option Addr} {len cap e n : Nat} {rows : List (List T)} (hn : n ≤ rows.length) (h : rows = [] ∨ ∃ β off arr el fz, p = some ⟨β, off, none⟩ ∧ w.heap[β]? = some (.cells arr el fz) ∧ De w S arr e off rows) :
  ∃ news, (Builtin.firstCells e n (.slice p len cap)).run P w = .ok news w ∧ De w S news e 0 (rows.take n) ∧ news.size = n * e := by
 rcases h with h | ⟨β, off, arr, el, fz, h1, h2, h3⟩
 ·subst h
  have : n = 0 := by simpa using hn
  subst this
  obtain ⟨news, k1, k2, k3⟩ := Eq (P := P) (w := w) (a := p) (len := len) (cap := cap) (e := e) (S := S)
  exact ⟨news, k1 w rfl, by simpa using k2, by simpa using k3⟩
 ·subst h1
  have hl : (rows.take n).length = n := by simp; omega
  obtain ⟨news, k1, k2, k3⟩ := FL (P := P) (len := len) (cap := cap) h2 (h3.take (n := n))
  rw [hl] at k1 k3
  exact ⟨news, k1 w rfl, k2, k3⟩
theorem Mg {G : Gh} {w : World} {b e β cap q : Nat} {rows rows2 : List (List T)} {arr news : Array Value} {el : TypeId} (hlt : β < w.heap.size) (hnS : ¬ G.S β) (h0 : G.loc b = some β) (h1 : G.hd b = .slice (some ⟨β, 0, none⟩) rows.length cap) (h3 : rows.length ≤ cap) (h4 : arr.size = cap * e) (h5 : De w G.S arr e 0 rows)
  (hn : De w G.S news e 0 rows2) (hns : news.size = rows2.length * e) (hq : q + rows2.length ≤ rows.length) :
  EA P (Fw w β (.cells (Fm arr (q * e) news.toList) el (0, 0))) G b (.vec e (Hz rows q rows2)) := by
 have hle : q * e + rows2.length * e ≤ cap * e := by rw [← Nat.add_mul]; exact Nat.mul_le_mul_right e (by omega)
 have hS : ∀ γ, G.S γ → (Fw w β (.cells (Fm arr (q * e) news.toList) el (0, 0))).heap[γ]? = w.heap[γ]? := fun γ hγ => by
  rw [DD, if_neg (fun (h : γ = β ∧ β < w.heap.size) => hnS (h.1 ▸ hγ))]
 have hrl : ∀ (i : Nat) (row : List T), (Hz rows q rows2)[i]? = some row → row.length = e := by
  intro i row hi
  rw [NE hq] at hi
  split at hi
  ·exact hn.2.1 _ row hi
  ·exact h5.2.1 _ row hi
 refine .inr ⟨β, cap, Fm arr (q * e) news.toList, el, h0, by rw [HS hq]; exact h1, by rw [DD, if_pos ⟨rfl, hlt⟩], by rw [HS hq]; exact h3, by rw [F2, h4], hrl, ?_⟩
 intro i row j t hi hj
 have hj' := AL hj
 have hre := hrl i row hi
 rw [NE hq] at hi
 rw [EF _ _ _ _ (by simp; omega)]
 simp only [Array.length_toList, hns]
 split at hi
 ·rename_i hin
  have hle2 : (i - q) * e + e ≤ rows2.length * e := by rw [← Nat.succ_mul]; exact Nat.mul_le_mul_right e (by omega)
  have hsp : i * e = q * e + (i - q) * e := by rw [← Nat.add_mul]; congr 1; omega
  rw [if_pos (by omega)]
  have := hn.2.2 _ row j t hi hj
  rw [Nat.zero_add] at this
  have h6 : (news.toList[i * e + j - q * e]?).getD undef = Ay news ((i - q) * e + j) := by
   rw [show i * e + j - q * e = (i - q) * e + j from by omega]
   unfold Ay; simp
  rw [h6]
  exact this.mono hS fun _ h => h
 ·rename_i hin
  rw [if_neg]
  ·have := h5.2.2 _ row j t hi hj
   rw [Nat.zero_add] at this
   exact this.mono hS fun _ h => h
  ·rintro ⟨k1, k2⟩
   by_cases hiq : i < q
   ·have : i * e + e ≤ q * e := by rw [← Nat.succ_mul]; exact Nat.mul_le_mul_right e hiq
    omega
   ·have : q * e + rows2.length * e ≤ i * e := by rw [← Nat.add_mul]; exact Nat.mul_le_mul_right e (by omega)
    omega
theorem OJ {x : Operand} {t el s e l h b lo0 len : Nat} {lo hi : Option Operand} {rl rh : List (Operand × D)} {rows : List (List T)} {d : D} (hat : At st.env ops i X.n (.slice t x lo hi none) s gs)
  (hx : opd st.env x = some d) (hD : J3 d b e rows lo0 len) (hb : st.bx b = some (.vec e rows)) (ht : sliceB P t el = true) (he : Gq P el e = true) (hlo : Ph lo 0 l rl) (hhi : Ph hi len h rh) (h1 : EZ st.env rl) (h2 : EZ st.env rh) (hlh : l ≤ h) (hhl : lo0 + h ≤ rows.length)
  (next : Bk P X ops dr Q r (i + 1) (CL.upd ⟨gs ++ ((x, d) :: (rl ++ rh)), [(b, .vec e rows)], some s, some (.e (.one (.view b e (lo0 + l) (h - l)))), [], []⟩ st) ((i, ⟨gs ++ ((x, d) :: (rl ++ rh)), [(b, .vec e rows)], some s, some (.e (.one (.view b e (lo0 + l) (h - l)))), [], []⟩) :: log)) : Bk P X ops dr Q (r + 1) i st log := by
 obtain ⟨o, ho, hop, hd, hn, hg, hgp⟩ := hat.out
 refine Bk.step next ⟨Au.2 ⟨hgp, hx, Au.2 ⟨h1, h2⟩⟩, ⟨hb, trivial⟩, trivial⟩ (LR.value ho hg rfl hd.symm (Do hd hn) ?_)
 intro G st a w hs hpre
 obtain ⟨hx, h12⟩ := (Au.1 hpre.r).2
 obtain ⟨h1, h2⟩ := Au.1 h12
 have hb := hpre.b.1
 -- the header of the whole
 obtain ⟨a0, cap, k1, k2, k3⟩ := Kh (hs.blk b _ hb)
 have hv : ∃ p, a.eval x = .slice p len (cap - lo0) ∧ lo0 + len ≤ rows.length ∧ (lo0 < cap → p = a0.map fun q => q.add (lo0 * e)) := by
  have hR := hs.opd hx
  cases hD with
  | own =>
   obtain ⟨hR, _⟩ : Ev P w G (a.eval x) (.own b) := hR
   exact ⟨a0, hR.trans k1, by omega, fun _ => by cases a0 <;> simp [LA]⟩
  | view _ _ _ _ _ h' =>
   obtain ⟨a1, n1, cap1, p, g1, g2, g3, g4⟩ : Ev P w G (a.eval x) (.view b e lo0 len) := hR
   rw [k1] at g1; cases g1
   exact ⟨p, g3, h', g4⟩
 obtain ⟨p, hv1, hv2, hv3⟩ := hv
 refine ⟨.slice (if cap - lo0 = l then p else p.map (·.add (l * e))) (h - l) (cap - lo0 - l), w, G, ?_, hs, ?_⟩
 ·simp only [execOp, hop]
  refine Al (a := .slice (if cap - lo0 = l then p else p.map (·.add (l * e))) (h - l) (cap - lo0 - l)) (w1 := w) ?_ rfl
  rw [hv1]
  exact My (a := a) hs ht he hlo hhi h1 h2 hlh (by omega)
 ·rintro d' ⟨⟩
  refine ⟨⟨a0, rows.length, cap, _, k1, by omega, by rw [show cap - lo0 - l = cap - (lo0 + l) from by omega], fun hlt => ?_⟩, fun b' hb' => ?_⟩
  ·rw [if_neg (by omega), hv3 (by omega)]
   obtain ⟨β, arr, el', g1, _⟩ := k3 (by omega)
   subst g1
   simp only [Option.map_some, Addr.add_mk, Nat.add_mul, Nat.zero_add]
  ·simp [D.names, E.names, C.names] at hb'
   subst hb'
   simp [Bl, hb]
theorem Qx {x : Operand} {s t el b e lo len : Nat} (hat : At st.env ops i X.n (.call ⟨.builtin .len, #[x], #[t]⟩) s gs)
  (hx : opd st.env x = some (.e (.one (.view b e lo len)))) (ht : sliceB P t el = true)
  (next : Bk P X ops dr Q r (i + 1) (CL.upd ⟨gs ++ [(x, .e (.one (.view b e lo len)))], [], some s, some (vD (goInt len)), [], []⟩ st) ((i, ⟨gs ++ [(x, .e (.one (.view b e lo len)))], [], some s, some (vD (goInt len)), [], []⟩) :: log)) : Bk P X ops dr Q (r + 1) i st log := by
 obtain ⟨o, ho, hop, hd, hn, hg, hgp⟩ := hat.out
 refine Bk.step next ⟨Au.2 ⟨hgp, hx, trivial⟩, trivial, trivial⟩ (LR.value ho hg rfl hd.symm (Do hd hn) ?_)
 intro G st a w hs hpre
 obtain ⟨hx, _⟩ := (Au.1 hpre.r).2
 obtain ⟨a1, n1, cap1, p, k1, k2, k3, k4⟩ : Ev P w G (a.eval x) (.view b e lo len) := hs.opd hx
 refine ⟨goInt len, w, G, ?_, hs, ?_⟩
 ·simp only [execOp, hop]
  refine Fv fun cs => ?_
  simp only [List.map_toArray, List.map_cons, List.map_nil, builtin, k3]
  exact Al (Jn ht) rfl
 ·rintro d ⟨⟩
  exact ⟨.val _ rfl, fun b hb => by cases hb⟩
theorem Ol {x y : Operand} {s e b lo len : Nat} {rows : List (List T)} {row : List T} {t el : TypeId} {k : IntKind} {n : Int} (hat : At st.env ops i X.n (.indexAddr t x y) s gs)
  (hx : opd st.env x = some (.e (.one (.view b e lo len)))) (hle : lo + len ≤ rows.length) (hy : opd st.env y = some (vD (.int k n))) (hb : st.bx b = some (.vec e rows)) (ht : sliceB P t el = true) (hz : Gq P el e = true) (h0 : 0 ≤ n) (hn1 : n.toNat < len)
  (next : Bk P X ops dr Q r (i + 1) (CL.upd ⟨gs ++ [(x, .e (.one (.view b e lo len))), (y, vD (.int k n))], [(b, .vec e rows)], some s, some (.e (.one (.eptr b e (lo + n.toNat) 0))), [], []⟩ st) ((i, ⟨gs ++ [(x, .e (.one (.view b e lo len))), (y, vD (.int k n))], [(b, .vec e rows)], some s, some (.e (.one (.eptr b e (lo + n.toNat) 0))), [], []⟩) :: log)) : Bk P X ops dr Q (r + 1) i st log := by
 obtain ⟨o, ho, hop, hd, hn, hg, hgp⟩ := hat.out
 refine Bk.step next ⟨Au.2 ⟨hgp, hx, hy, trivial⟩, ⟨hb, trivial⟩, trivial⟩ (LR.value ho hg rfl hd.symm (Do hd hn) ?_)
 intro G st a w hs hpre
 obtain ⟨hx, hy, _⟩ := (Au.1 hpre.r).2
 have hb := hpre.b.1
 obtain ⟨p, cap', h1, h2, h3, h4⟩ := hs.dstV hx (.view b e rows lo len hle) hb
 have hY : a.eval y = .int k n := Eg (hs.opd hy : Dr w G.S (a.eval y) (.val _))
 obtain ⟨β, cap, arr, el', g1, g2, g3, g4, g5, g6, g7⟩ := h4 (by omega)
 subst g4
 refine ⟨_, w, G, by simp only [execOp, hop, h1, hY]; exact Al (Iq ht hz h0 hn1) rfl, hs, ?_⟩
 rintro d ⟨⟩
 exact ⟨⟨β, g1, by simp [Nat.add_mul]⟩, fun b' hb' => hs.opd_live hx b' (by simpa [D.names, E.names, C.names] using hb')⟩
theorem Ot {t t2 el e : Nat} {w : World} {p p2 : Option Addr} {dl dc n2 c2 : Nat} {news : Array Value} {ty : TypeId} (ht : sliceB P t el = true) (he : Gq P el e = true) (hnew : (Builtin.firstCells e (Nat.min n2 dl) (.slice p2 n2 c2)).run P w = .ok news w) {w' : World}
  (hst : ∀ q, p = some q → (storeCells q news.toList).run P w = .ok () w') (hno : p = none → w' = w) : (Builtin.copy_ #[t, t2] ty #[.slice p dl dc, .slice p2 n2 c2]).run P w = .ok (goInt (Nat.min n2 dl)) w' := by
 unfold sliceB at ht
 split at ht
 ·rename_i e' hu
  have : e' = el := by simpa using ht
  subst this
  unfold Builtin.copy_
  refine Al (AK hu w) ?_
  refine Al (a := n2) (w1 := w) rfl ?_
  refine Al (D2 he w) ?_
  refine Al hnew ?_
  cases p with
  | none => rw [hno rfl]; rfl
  | some q => exact Al (hst q rfl) rfl
 ·cases ht
theorem Qy {x y : Operand} {t t2 el s e b lo len : Nat} {d d2 : D} {rb2 : List (Nat × Bu)} {rows rows2 rows' : List (List T)} (hat : At st.env ops i X.n (.call ⟨.builtin .copy, #[x, y], #[t, t2]⟩) s gs)
  (hx : opd st.env x = some d) (hD : J3 d b e rows lo len) (hb : st.bx b = some (.vec e rows)) (hy : opd st.env y = some d2) (hS : La d2 rb2 e rows2) (hb2 : Gm st.bx rb2) (ht : sliceB P t el = true) (he : Gq P el e = true) (hr : Hz rows lo (rows2.take (Nat.min rows2.length len)) = rows')
  (next : Bk P X ops dr Q r (i + 1) (CL.upd ⟨gs ++ [(x, d), (y, d2)], (b, .vec e rows) :: rb2, some s, some (vD (goInt (Nat.min rows2.length len))), [(b, .vec e rows')], []⟩ st) ((i, ⟨gs ++ [(x, d), (y, d2)], (b, .vec e rows) :: rb2, some s, some (vD (goInt (Nat.min rows2.length len))), [(b, .vec e rows')], []⟩) :: log)) : Bk P X ops dr Q (r + 1) i st log := by
 obtain ⟨o, ho, hop, hd, hn, hg, hgp⟩ := hat.out
 refine Bk.step next ⟨Au.2 ⟨hgp, hx, hy, trivial⟩, ⟨hb, hb2⟩, trivial⟩ (LR.value ho hg rfl hd.symm (Do hd hn) ?_)
 intro G st a w hs hpre
 obtain ⟨hx, hy, _⟩ := (Au.1 hpre.r).2
 obtain ⟨hb, hb2⟩ := hpre.b
 subst hr
 obtain ⟨p, cap', h1, h2, h3, h4⟩ := hs.dstV hx hD hb
 obtain ⟨p2, cap2, k1, k2⟩ := hs.srcW hy hS hb2
 have hmin : Nat.min rows2.length len ≤ rows2.length := Nat.min_le_left _ _
 have hmin2 : Nat.min rows2.length len ≤ len := Nat.min_le_right _ _
 obtain ⟨news, n1, n2, n3⟩ := LW (P := P) (len := rows2.length) (cap := cap2) hmin k2
 have hl2 : (rows2.take (Nat.min rows2.length len)).length = Nat.min rows2.length len := by rw [List.length_take]; exact Nat.min_eq_left hmin
 have hrun : ∀ w', (∀ q, p = some q → (storeCells q news.toList).run P w = .ok () w') → (p = none → w' = w) → (execOp a.eval o).run P w = .ok (.value (goInt (Nat.min rows2.length len))) w' := fun w' g1 g2 => by
  simp only [execOp, hop]
  refine Fv fun cs => ?_
  simp only [List.map_toArray, List.map_cons, List.map_nil, builtin, h1, k1]
  exact Al (Ot ht he n1 g1 g2) rfl
 have fin : ∀ d', some (vD (goInt (Nat.min rows2.length len))) = some d' → ∀ w' (G' : Gh), FV P w' G' (goInt (Nat.min rows2.length len)) d' ∧ ∀ c, c ∈ d'.names → (Bl st.bx [(b, .vec e (Hz rows lo (rows2.take (Nat.min rows2.length len))))] c).isSome = true := fun d' hd' w' G' => by
  cases hd'; exact ⟨.val _ rfl, fun c hc => by cases hc⟩
 by_cases hlt : lo < rows.length
 ·obtain ⟨β, cap, arr, el', g1, g2, g3, g4, g5, g6, g7⟩ := h4 hlt
  subst g4
  have hat := hs.at_ok b _ β hb rfl (.inl g1)
  have hle : lo * e + Nat.min rows2.length len * e ≤ arr.size := by rw [g6, ← Nat.add_mul]; exact Nat.mul_le_mul_right e (by omega)
  have hst := EL (P := P) (β := β) (el := el') news.toList w (lo * e) 0 arr g5 (by simp [n3]; omega) (De.ones n2 (by rw [n3, hl2]))
  rw [Nat.add_zero] at hst
  refine ⟨_, _, G, hrun _ (fun q hq => by cases hq; exact hst) (fun h => by cases h), ?_, fun d' hd' => fin d' hd' _ _⟩
  exact hs.setB (b := b) (k0 := .vec e rows) hb rfl rfl (.inl g1) (Mg hat.2.1 hat.2.2 g1 g2 g3 g6 g7 n2 (by rw [n3, hl2]) (by rw [hl2]; omega)) (fun c hc => by cases hc)
 ·have hz : Nat.min rows2.length len = 0 := by omega
  have hn0 : news.toList = [] := List.eq_nil_of_length_eq_zero (by simp [n3, hz])
  have hsp : Hz rows lo (rows2.take (Nat.min rows2.length len)) = rows := by
   have : lo = rows.length := by omega
   rw [hz]; unfold Hz; simp [this]
  refine ⟨_, w, G, hrun w (fun q _ => by rw [hn0]; rfl) (fun _ => rfl), ?_, fun d' hd' => fin d' hd' _ _⟩
  have : (⟨st.env, Bl st.bx [(b, .vec e (Hz rows lo (rows2.take (Nat.min rows2.length len))))]⟩ : St) = st := by
   refine St.ext (fun _ => rfl) fun c => ?_
   simp only [Bl]
   split
   ·rename_i e1; rw [e1, hsp, hb]
   ·rfl
  rw [this]; exact hs
theorem KD {w : World} {S : Nat → Prop} {z : Value} {zs : List Value} {e n : Nat} (hzs : z.cells.toList = zs) (hz1 : zs.all FM = true) (hze : zs.length = e) : De w S (Builtin.zeroCells z.cells n) e 0 (List.replicate n (zs.map fun v => (T.of v).nrm)) ∧ (Builtin.zeroCells z.cells n).size = n * e := by
 have hsz : z.cells.size = e := by rw [← hze, ← hzs]; simp
 have hsize : (Builtin.zeroCells z.cells n).size = n * e := by unfold Builtin.zeroCells; simp [hsz]
 refine ⟨⟨by rw [hsize]; simp, ?_, ?_⟩, hsize⟩
 ·intro i row hi
  rw [List.getElem?_replicate] at hi
  split at hi
  ·cases hi; simp [hze]
  ·cases hi
 ·intro i row j t hi hj
  rw [List.getElem?_replicate] at hi
  split at hi
  ·rename_i hlt
   cases hi
   rw [List.getElem?_map] at hj
   cases hv : zs[j]? with
   | none => rw [hv] at hj; cases hj
   | some v =>
    rw [hv] at hj; cases hj
    have hj' : j < e := by rw [← hze]; exact AL hv
    have hle : i * e + e ≤ n * e := by rw [← Nat.succ_mul]; exact Nat.mul_le_mul_right e hlt
    have hc : Ay (Builtin.zeroCells z.cells n) (0 + i * e + j) = v := by
     unfold Ay Builtin.zeroCells
     rw [Nat.zero_add, hsz]
     have h1 : i * e + j < n * e := by omega
     rw [Array.getElem?_map, show (Array.range (n * e))[i * e + j]? = some (i * e + j) from by simp [h1]]
     simp only [Option.map_some, Option.getD_some]
     have h2 : (i * e + j) % e = j := by rw [Nat.add_comm, Nat.add_mul_mod_self_right, Nat.mod_eq_of_lt hj']
     rw [h2]
     have h3 : z.cells[j]? = some v := by rw [← Array.getElem?_toList, hzs]; exact hv
     show z.cells[j]! = v
     rw [Array.getElem!_eq_getD, Array.getD_eq_getD_getElem?, h3]; rfl
    rw [hc]
    exact (Dr.of (List.all_eq_true.1 hz1 v (List.mem_of_getElem? hv))).nrm
  ·cases hi
theorem Oi {x : Operand} {t el b e lo len : Nat} {z : Value} {zs : List Value} {d : D} {rows rows' : List (List T)} (hop0 : Mi ops i = some (.call ⟨.builtin .clear, #[x], #[t]⟩))
  (hx : opd st.env x = some d) (hD : J3 d b e rows lo len) (hb : st.bx b = some (.vec e rows)) (ht : sliceB P t el = true) (hz : DF P el = some z) (hzs : z.cells.toList = zs) (hz1 : zs.all FM = true) (hze : zs.length = e)
  (hr : Hz rows lo (List.replicate len (zs.map fun v => (T.of v).nrm)) = rows')
  (next : Bk P X ops dr Q r (i + 1) (CL.upd ⟨[(x, d)], [(b, .vec e rows)], none, none, [(b, .vec e rows')], []⟩ st) ((i, ⟨[(x, d)], [(b, .vec e rows)], none, none, [(b, .vec e rows')], []⟩) :: log)) : Bk P X ops dr Q (r + 1) i st log := by
 obtain ⟨o, ho, hop, hd, hgn⟩ := J8 hop0
 have hg : Oh ops o [] := .none hgn
 refine Bk.step next ⟨⟨hx, trivial⟩, ⟨hb, trivial⟩, trivial⟩ (LR.value (rs := [(x, d)]) ho hg rfl hd.symm (fun s h => by rw [hd] at h; cases h) ?_)
 intro G st a w hs hpre
 have hx := hpre.r.1
 have hb := hpre.b.1
 subst hr
 obtain ⟨p, cap', h1, h2, h3, h4⟩ := hs.dstV hx hD hb
 obtain ⟨n2, n3⟩ := KD (w := w) (S := G.S) (n := len) hzs hz1 hze
 have hl2 : (List.replicate len (zs.map fun v => (T.of v).nrm)).length = len := by simp
 have hrun : ∀ w', (len ≠ 0 → ∃ q, p = some q ∧ (storeCells q (Builtin.zeroCells z.cells len).toList).run P w = .ok () w') → (len = 0 → w' = w) → (execOp a.eval o).run P w = .ok (.value (.tuple #[])) w' := fun w' g1 g2 => by
  simp only [execOp, hop]
  refine Fv fun cs => ?_
  simp only [List.map_toArray, List.map_cons, List.map_nil, builtin, h1]
  refine Al (a := .tuple #[]) (w1 := w') ?_ rfl
  unfold sliceB at ht
  split at ht
  ·rename_i e' hu
   have : e' = el := by simpa using ht
   subst this
   unfold Builtin.clear_
   refine Al (AK hu w) ?_
   by_cases hz0 : len = 0
   ·rw [g2 hz0]
    subst hz0
    cases p <;> rfl
   ·obtain ⟨q, hq, hst⟩ := g1 hz0
    subst hq
    obtain ⟨len', rfl⟩ : ∃ m, len = m + 1 := ⟨len - 1, (Nat.succ_pred_eq_of_pos (Nat.pos_of_ne_zero hz0)).symm⟩
    refine Al (Et hz w) ?_
    exact Al hst rfl
  ·cases ht
 have fin : ∀ (d' : D), (none : Option D) = some d' → ∀ w', FV P w' G (.tuple #[]) d' ∧ ∀ c, c ∈ d'.names → (Bl st.bx [(b, .vec e (Hz rows lo (List.replicate len (zs.map fun v => (T.of v).nrm))))] c).isSome = true := fun d' hd' => by cases hd'
 by_cases hz0 : len = 0
 ·have hsp : Hz rows lo (List.replicate len (zs.map fun v => (T.of v).nrm)) = rows := by rw [hz0]; unfold Hz; simp
  refine ⟨_, w, G, hrun w (fun h => (h hz0).elim) (fun _ => rfl), ?_, fun d' hd' => fin d' hd' _⟩
  have : (⟨st.env, Bl st.bx [(b, .vec e (Hz rows lo (List.replicate len (zs.map fun v => (T.of v).nrm))))]⟩ : St) = st := by
   refine St.ext (fun _ => rfl) fun c => ?_
   simp only [Bl]
   split
   ·rename_i e1; rw [e1, hsp, hb]
   ·rfl
  rw [this]; exact hs
 ·have hlr : lo < rows.length := Nat.lt_of_lt_of_le (Nat.lt_add_of_pos_right (Nat.pos_of_ne_zero hz0)) h3
  obtain ⟨β, cap, arr, el', g1, g2, g3, g4, g5, g6, g7⟩ := h4 hlr
  subst g4
  have hat := hs.at_ok b _ β hb rfl (.inl g1)
  have hle : lo * e + len * e ≤ arr.size := by rw [g6, ← Nat.add_mul]; exact Nat.mul_le_mul_right e (by omega)
  have hst := EL (P := P) (β := β) (el := el') (Builtin.zeroCells z.cells len).toList w (lo * e) 0 arr g5 (by simp [n3]; omega) (De.ones n2 (by rw [n3, hl2]))
  rw [Nat.add_zero] at hst
  refine ⟨_, _, G, hrun _ (fun _ => ⟨_, rfl, hst⟩) (fun h => (hz0 h).elim), ?_, fun d' hd' => fin d' hd' _⟩
  exact hs.setB (b := b) (k0 := .vec e rows) hb rfl rfl (.inl g1) (Mg hat.2.1 hat.2.2 g1 g2 g3 g6 g7 n2 (by rw [n3, hl2]) (by rw [hl2]; exact h3)) (fun c hc => by cases hc)
end run
theorem NZ {st : St} (s b e : Nat) (rows : List (List T)) (hs0 : st.env s = some (.e (.one (.own b)))) (hb : st.bx b = some (.vec e rows)) : Fs P X st (St.put st (some s) (some (.e (.one (.view b e 0 rows.length))))) := by
 rintro a w ⟨G, h⟩
 obtain ⟨a0, cap, k1, k2, k3⟩ := Kh (h.blk b _ hb)
 obtain ⟨hR, _⟩ : Ev P w G (Ay a.tmps s) (.own b) := h.env s _ hs0
 refine ⟨G, { h with env := ?_, live := ?_, blk := h.blk, at_ok := h.at_ok, at_inj := h.at_inj, liveB := h.liveB, nlt := h.nlt, lent := h.lent }⟩
 ·intro t d ht
  simp only [St.put] at ht
  split at ht
  ·rename_i e2; cases ht
   rw [e2]
   exact ⟨a0, rows.length, cap, a0, k1, by omega, by rw [hR, k1]; rfl, fun _ => by cases a0 <;> simp [LA]⟩
  ·exact h.env t d ht
 ·intro t d ht c hc
  simp only [St.put] at ht
  split at ht
  ·cases ht
   simp [D.names, E.names, C.names] at hc
   subst hc
   show (st.bx c).isSome = true
   rw [hb]; rfl
  ·exact h.live t d ht c hc
theorem Oy {st : St} (s b n e len : Nat) (rows : List (List T)) (hs0 : st.env s = some (.e (.one (.view b e 0 len)))) (hb : st.bx b = some (.vec e rows)) (hn : st.bx n = none) (hlb : BP b = false) (hln : BP n = false) (hle : len ≤ rows.length) :
  Fs P X st (St.put ⟨st.env, Bl st.bx [(n, .vec e (rows.take len)), (b, .gone)]⟩ (some s) (some (.e (.one (.own n))))) := by
 rintro a w ⟨G, h⟩
 have hnb : n ≠ b := fun e => by rw [e, hb] at hn; cases hn
 obtain ⟨a0, n1, cap, p, k1, k2, k3, k4⟩ : Ev P w G (Ay a.tmps s) (.view b e 0 len) := h.env s _ hs0
 obtain ⟨a1, cap1, g1, g2, g3⟩ := Kh (h.blk b _ hb)
 rw [g1] at k1; cases k1
 -- the new ghost
 have hlen : (rows.take len).length = len := by rw [List.length_take]; exact Nat.min_eq_left hle
 have hbx : ∀ c, Bl st.bx [(n, Bu.vec e (rows.take len)), (b, .gone)] c = if c = n then some (.vec e (rows.take len)) else if c = b then some .gone else st.bx c := fun c => rfl
 have hext : ∀ l v, G.ext (G.set n l v) (fun c => (st.bx c).isSome = true) := fun l v => Gh.set_ext _ _ _ _ (by simp [hn])
 have key : ∃ l v, Ay a.tmps s = v ∧ (∃ q m c, v = .slice q m c) ∧ (∀ β, l = some β → G.loc b = some β) ∧ EA P w (G.set n l v) n (.vec e (rows.take len)) := by
  by_cases hc : 0 < cap
  ·obtain ⟨β, arr, el, q1, q2, q3, q4, q5⟩ := g3 hc
   subst q1
   refine ⟨some β, .slice (some ⟨β, 0, none⟩) len cap, ?_, ⟨_, _, _, rfl⟩, fun γ hγ => by cases hγ; exact q2, ?_⟩
   ·rw [k3, k4 hc]; simp [Addr.add_mk]
   ·refine .inr ⟨β, cap, arr, el, by simp [Gh.set], by simp [Gh.set, hlen], q3, by rw [hlen]; omega, q4, fun i row hi => (q5.take (n := len)).2.1 i row hi, fun i row j t hi hj => ?_⟩
    have := (q5.take (n := len)).2.2 i row j t hi hj
    rw [Nat.zero_add] at this
    exact this
  ·have hr0 : rows.length = 0 := by omega
   have hl0 : len = 0 := by omega
   have hc0 : cap = 0 := by omega
   refine ⟨none, .slice p 0 0, by rw [k3, hl0, hc0], ⟨_, _, _, rfl⟩, fun γ hγ => (by cases hγ), .inl ⟨p, by simp [Gh.set], by rw [hl0, List.take_zero], by simp [Gh.set]⟩⟩
 obtain ⟨l, v, hv1, hv2, hl, hblk⟩ := key
 have h1 : C5 P X (G.set n l v) ⟨st.env, Bl st.bx [(n, .vec e (rows.take len)), (b, .gone)]⟩ a w := by
  refine h.frame ?_ (hext l v) (fun _ _ => rfl) ?_ ?_ ?_ h.S_lt h.S_src h.below (Gh.set_lent _ _ hln)
  ·intro c hc; rw [hbx]; split
   ·rfl
   ·split
    ·rfl
    ·exact hc
  ·intro c k hc
   rw [hbx] at hc
   split at hc
   ·rename_i e2; subst e2; cases hc
    exact .inr ⟨hblk, fun c hc => by cases hc⟩
   ·split at hc
    ·cases hc; exact .inr ⟨trivial, fun c hc => by cases hc⟩
    ·exact .inl ⟨hc, fun _ _ _ => rfl⟩
  ·intro c k β hc hr hβ
   rw [hbx] at hc
   rw [Gh.set_has] at hβ
   split at hc
   ·rename_i e2; rw [if_pos e2] at hβ
    have h5 := h.at_ok b _ β hb rfl (.inl (hl β hβ))
    exact ⟨.new (h5.1.1 hlb), h5.2⟩
   ·rename_i e2; rw [if_neg e2] at hβ
    split at hc
    ·cases hc; cases hr
    ·exact h.at_ok c k β hc hr hβ
  ·intro c c' k k' β hc hc' hr hr' hβ hβ'
   rw [hbx] at hc hc'
   rw [Gh.set_has] at hβ hβ'
   have old : ∀ c k, (if c = n then some (Bu.vec e (rows.take len)) else if c = b then some .gone else st.bx c) = some k → k.real = true → (if c = n then l = some β else G.has c β) → (c = n ∧ G.has b β) ∨ (c ≠ n ∧ c ≠ b ∧ st.bx c = some k ∧ G.has c β) := by
    intro c k hc hr hβ
    split at hc
    ·rename_i e2; rw [if_pos e2] at hβ; exact .inl ⟨e2, .inl (hl β hβ)⟩
    ·rename_i e2; rw [if_neg e2] at hβ
     split at hc
     ·cases hc; cases hr
     ·rename_i e3; exact .inr ⟨e2, e3, hc, hβ⟩
   rcases old c k hc hr hβ with ⟨h2, h3⟩ | ⟨h2, h3, h4, h5⟩ <;> rcases old c' k' hc' hr' hβ' with ⟨h2', h3'⟩ | ⟨h2', h3', h4', h5'⟩
   ·rw [h2, h2']
   ·exact (h3' (h.at_inj c' b _ _ β h4' hb hr' rfl h5' h3)).elim
   ·exact (h3 (h.at_inj c b _ _ β h4 hb hr rfl h5 h3')).elim
   ·exact h.at_inj c c' k k' β h4 h4' hr hr' h5 h5'
 refine ⟨G.set n l v, { h1 with env := ?_, live := ?_, blk := h1.blk, at_ok := h1.at_ok, at_inj := h1.at_inj, liveB := h1.liveB, nlt := h1.nlt, lent := h1.lent }⟩
 ·intro t d ht
  simp only [St.put] at ht
  split at ht
  ·rename_i e2; cases ht
   rw [e2, hv1]
   exact ⟨by simp [Gh.set], hv2⟩
  ·exact h1.env t d ht
 ·intro t d ht c hc
  simp only [St.put] at ht
  split at ht
  ·cases ht
   simp [D.names, E.names, C.names] at hc
   subst hc
   show (Bl st.bx [(c, .vec e (rows.take len)), (b, .gone)] c).isSome = true
   simp [Bl]
  ·exact h1.live t d ht c hc
end Go.Lift

/- Smaller operations: least and greatest, checks against nil, a part of an element, bytes and strings; maps of the call's own. No condition. -/
namespace Go.Lift
open Go.RowKit
variable {P : Program} {X : H3} {ops : Array Oper}
def PY (a b : Int) : Int := if b < a then b else a
def N0 (b : ByteArray) (i : Int) : Option Int := if 0 ≤ i then (b[i.toNat]?).map fun x => (x.toNat : Int) else none
theorem NY {β : Type} {b : ByteArray} {i : Int} {f : Int → Option β} {r : β} (h : (N0 b i).bind f = some r) : ∃ x : UInt8, 0 ≤ i ∧ b[i.toNat]? = some x ∧ f (x.toNat : Int) = some r := by
 obtain ⟨x, h1, h2⟩ := bind_some h
 unfold N0 at h1
 split at h1
 ·rename_i h0
  cases hx : b[i.toNat]? with
  | none => rw [hx] at h1; cases h1
  | some y => rw [hx] at h1; cases h1; exact ⟨y, h0, rfl, h2⟩
 ·cases h1
def GZ (xs : List Int) : ByteArray := xs.foldl (fun s n => s.push (UInt8.ofNat n.toNat)) ByteArray.empty
section run
variable {dr : Bool} {Q : St → Prop} {r i : Nat} {st : St} {log : List (Nat × CL)} {o : Oper} {gs : List (Operand × D)}
theorem Rs {x y : Operand} {t t2 s : Nat} {k k2 : IntKind} {a0 b0 : Int} (hat : At st.env ops i X.n (.call ⟨.builtin .min, #[x, y], #[t, t2]⟩) s gs)
  (hx : opd st.env x = some (vD (.int k a0))) (hy : opd st.env y = some (vD (.int k2 b0)))
  (next : Bk P X ops dr Q r (i + 1) (CL.upd ⟨gs ++ [(x, vD (.int k a0)), (y, vD (.int k2 b0))], [], some s, some (vD (.int k (PY a0 b0))), [], []⟩ st) ((i, ⟨gs ++ [(x, vD (.int k a0)), (y, vD (.int k2 b0))], [], some s, some (vD (.int k (PY a0 b0))), [], []⟩) :: log)) : Bk P X ops dr Q (r + 1) i st log := by
 obtain ⟨o, ho, hop, hd, hn, hg, hgp⟩ := hat.out
 refine Bk.step next ⟨Au.2 ⟨hgp, hx, hy, trivial⟩, trivial, trivial⟩ (LR.value ho hg rfl hd.symm (Do hd hn) ?_)
 intro G st a w hs hpre
 obtain ⟨hx, hy, _⟩ := (Au.1 hpre.r).2
 have h1 : a.eval x = .int k a0 := Eg (hs.opd hx : Dr w G.S (a.eval x) (.val _))
 have h2 : a.eval y = .int k2 b0 := Eg (hs.opd hy : Dr w G.S (a.eval y) (.val _))
 refine ⟨.int k (PY a0 b0), w, G, ?_, hs, ?_⟩
 ·simp only [execOp, hop]
  refine Fv fun cs => ?_
  simp only [List.map_toArray, List.map_cons, List.map_nil, builtin, h1, h2]
  rfl
 ·rintro d ⟨⟩
  exact ⟨.val _ rfl, fun b hb => by cases hb⟩
theorem M2 {x : Operand} {s b k : Nat} (hat : At st.env ops i X.n (.nilCheck x) s gs) (hx : opd st.env x = some (.e (.one (.ptr b k))))
  (next : Bk P X ops dr Q r (i + 1) (CL.upd ⟨gs ++ [(x, .e (.one (.ptr b k)))], [], some s, some (.e (.one (.ptr b k))), [], []⟩ st) ((i, ⟨gs ++ [(x, .e (.one (.ptr b k)))], [], some s, some (.e (.one (.ptr b k))), [], []⟩) :: log)) : Bk P X ops dr Q (r + 1) i st log := by
 obtain ⟨o, ho, hop, hd, hn, hg, hgp⟩ := hat.out
 refine Bk.step next ⟨Au.2 ⟨hgp, hx, trivial⟩, trivial, trivial⟩ (LR.value ho hg rfl hd.symm (Do hd hn) ?_)
 intro G st a w hs hpre
 obtain ⟨hx, _⟩ := (Au.1 hpre.r).2
 obtain ⟨β, hβ, hv⟩ : Ev P w G (a.eval x) (.ptr b k) := hs.opd hx
 refine ⟨.pointer (some ⟨β, k, none⟩), w, G, ?_, hs, ?_⟩
 ·simp only [execOp, hop, hv]; rfl
 ·rintro d ⟨⟩
  exact ⟨⟨β, hβ, rfl⟩, fun b' hb' => hs.opd_live hx b' hb'⟩
def Lr (P : Program) (t : TypeId) : Bool := match P.underlying t with | some .string => true | _ => false
theorem Or {x y : Operand} {t s : Nat} {b : ByteArray} {k : IntKind} {n : Int} {c : UInt8} (hat : At st.env ops i X.n (.index t x y) s gs)
  (hx : opd st.env x = some (vD (.string b))) (hy : opd st.env y = some (vD (.int k n))) (ht : Lr P t = true) (h0 : 0 ≤ n) (hc : b[n.toNat]? = some c)
  (next : Bk P X ops dr Q r (i + 1) (CL.upd ⟨gs ++ [(x, vD (.string b)), (y, vD (.int k n))], [], some s, some (vD (.int .u8 (c.toNat : Int))), [], []⟩ st) ((i, ⟨gs ++ [(x, vD (.string b)), (y, vD (.int k n))], [], some s, some (vD (.int .u8 (c.toNat : Int))), [], []⟩) :: log)) : Bk P X ops dr Q (r + 1) i st log := by
 obtain ⟨o, ho, hop, hd, hn, hg, hgp⟩ := hat.out
 refine Bk.step next ⟨Au.2 ⟨hgp, hx, hy, trivial⟩, trivial, trivial⟩ (LR.value ho hg rfl hd.symm (Do hd hn) ?_)
 intro G st a w hs hpre
 obtain ⟨hx, hy, _⟩ := (Au.1 hpre.r).2
 have h1 : a.eval x = .string b := Eg (hs.opd hx : Dr w G.S (a.eval x) (.val _))
 have h2 : a.eval y = .int k n := Eg (hs.opd hy : Dr w G.S (a.eval y) (.val _))
 refine ⟨.int .u8 (c.toNat : Int), w, G, ?_, hs, ?_⟩
 ·simp only [execOp, hop, h1, h2]
  refine Al (a := .int .u8 (c.toNat : Int)) (w1 := w) ?_ rfl
  unfold Lr at ht
  split at ht
  ·rename_i hu
   unfold Instr.index
   refine Al (a := (k, n)) (w1 := w) rfl ?_
   refine Al (AK hu w) ?_
   simp only [h0, if_true, hc]
   rfl
  ·cases ht
 ·rintro d ⟨⟩
  exact ⟨.val _ rfl, fun b hb => by cases hb⟩
def L8 (P : Program) (s : TypeId) : Bool := match P.underlying s with | some (.slice e) => (match P.underlying e with | some (.int .u8) => true | _ => false) | _ => false
theorem Lx {w : World} {a : Addr} {len cap : Nat} {xs : List Int} (h : (loadCells a len).run P w = .ok (xs.map fun n => Value.int .u8 n).toArray w) : (Conv.bytesToString (.slice (some a) len cap)).run P w = .ok (.string (GZ xs)) w := by
 unfold Conv.bytesToString
 refine Al h ?_
 have key : ∀ (xs : List Int) (s : ByteArray), (forIn (m := Sem) (xs.map fun n => Value.int .u8 n) s (fun c r => (match c with
   | .int .u8 n => pure (ForInStep.yield (r.push (UInt8.ofNat n.toNat)))
   | _ => do stuck "bytesToString: byte expected" : Sem (ForInStep ByteArray)))).run P w = .ok (xs.foldl (fun s n => s.push (UInt8.ofNat n.toNat)) s) w := by
  intro xs
  induction xs with
  | nil => intro s; rfl
  | cons x xs ih =>
   intro s
   rw [List.map_cons, List.forIn_cons]
   refine Al (a := ForInStep.yield (s.push (UInt8.ofNat x.toNat))) (w1 := w) rfl ?_
   exact ih _
 have h2 := key xs ByteArray.empty
 rw [← List.forIn_toArray] at h2
 refine Al (a := GZ xs) (w1 := w) ?_ rfl
 exact h2
theorem Oz {x : Operand} {t t2 s : Nat} {d : D} {rb : List (Nat × Bu)} {rows : List (List T)} (xs : List Int) (hat : At st.env ops i X.n (.convert t t2 x) s gs)
  (hx : opd st.env x = some d) (hS : La d rb 1 rows) (hb : Gm st.bx rb) (hr : rows = xs.map fun n => [T.val (.int .u8 n)]) (ht : L8 P t = true) (ht2 : Lr P t2 = true)
  (next : Bk P X ops dr Q r (i + 1) (CL.upd ⟨gs ++ [(x, d)], rb, some s, some (vD (.string (GZ xs))), [], []⟩ st) ((i, ⟨gs ++ [(x, d)], rb, some s, some (vD (.string (GZ xs))), [], []⟩) :: log)) : Bk P X ops dr Q (r + 1) i st log := by
 obtain ⟨o, ho, hop, hd, hn, hg, hgp⟩ := hat.out
 refine Bk.step next ⟨Au.2 ⟨hgp, hx, trivial⟩, hb, trivial⟩ (LR.value ho hg rfl hd.symm (Do hd hn) ?_)
 intro G st a w hs hpre
 obtain ⟨hx, _⟩ := (Au.1 hpre.r).2
 have hb := hpre.b
 obtain ⟨p, cap, h1, h2⟩ := hs.srcW hx hS hb
 subst hr
 refine ⟨.string (GZ xs), w, G, ?_, hs, ?_⟩
 ·simp only [execOp, hop]
  refine Al (a := .string (GZ xs)) (w1 := w) ?_ rfl
  unfold L8 at ht
  split at ht
  ·rename_i e hu
   split at ht
   ·rename_i hu2
    unfold Lr at ht2
    split at ht2
    ·rename_i hu3
     unfold convert
     refine Al (AK hu w) ?_
     refine Al (AK hu3 w) ?_
     rw [h1]
     simp only [List.length_map]
     refine Al (AK hu2 w) ?_
     rcases h2 with h2 | ⟨β, off, arr, el, fz, h3, h4, h5⟩
     ·have hx0 : xs = [] := by simpa using h2
      subst hx0
      cases p with
      | none => rfl
      | some q => exact Lx (xs := []) (by unfold loadCells loadCellsFrom; rfl)
     ·subst h3
      refine Lx ?_
      have hsz : off + xs.length ≤ arr.size := by have := h5.1; simpa using this
      rw [Ga h4 hsz]
      congr 1
      apply congrArg List.toArray
      apply List.ext_getElem?
      intro j
      rw [List.getElem?_map, List.getElem?_map]
      by_cases hj : j < xs.length
      ·have hxj : xs[j]? = some xs[j] := by simp [hj]
       rw [List.getElem?_range hj, hxj]
       simp only [Option.map_some, Option.some.injEq]
       have hrow : (xs.map fun n => [T.val (.int .u8 n)])[j]? = some [T.val (.int .u8 xs[j])] := by rw [List.getElem?_map, hxj]; rfl
       have := h5.2.2 j _ 0 _ hrow rfl
       rw [Nat.mul_one, Nat.add_zero] at this
       exact Eg this
      ·rw [List.getElem?_eq_none (by simp; omega), List.getElem?_eq_none (by omega)]; rfl
    ·cases ht2
   ·cases ht
  ·cases ht
 ·rintro d ⟨⟩
  exact ⟨.val _ rfl, fun b hb => by cases hb⟩
end run
section maps
variable {K V : Type}
def Jm [BEq K] (k : K) : List (K × V) → Option V
 | [] => none
 | p :: r => if k == p.1 then some p.2 else Jm k r
def Jv [BEq K] (k : K) (v : V) : List (K × V) → List (K × V)
 | [] => [(k, v)]
 | p :: r => if k == p.1 then (k, v) :: r else p :: Jv k v r
def HF (kv : K → Value) (vt : V → T) (m : List (K × V)) : List (Value × T) := m.map fun p => (kv p.1, vt p.2)
end maps
structure OU {K : Type} [BEq K] (P : Program) (t : TypeId) (kv : K → Value) : Prop where
 ty : ∃ kt el kd, P.underlying t = some (.map kt el) ∧ P.underlying kt = some kd ∧ (∀ a b : K, Instr.sameNow kd (kv a) (kv b) = some (a == b)) ∧ (∀ (e : Bool) (n : Nat) (v : K) (w : World), (Instr.checkKey e (n + 1) kt (kv v)).run P w = .ok () w)
 same : ∀ a b : K, (a == b) = true → Instr.sameBits 10000 (kv b) (kv a) = true
theorem Ik {K V : Type} [BEq K] {kd : TypeDesc} {kv : K → Value} (h : ∀ a b : K, Instr.sameNow kd (kv a) (kv b) = some (a == b)) (k : K) : ∀ (m : List (K × V)) (es : List MapEntry) (i : Nat), es.length = m.length → (∀ (j : Nat) (p : K × V), m[j]? = some p → ∃ e : MapEntry, es[j]? = some e ∧ e.key = kv p.1) →
  (Jm k m = none ∧ Instr.findNow kd (kv k) es i = some none) ∨ ∃ j p e, m[j]? = some p ∧ es[j]? = some e ∧ (k == p.1) = true ∧ Jm k m = some p.2 ∧ Instr.findNow kd (kv k) es i = some (some (i + j, e.val)) ∧ (∀ v, Jv k v m = m.set j (k, v))
 | [], [], i, _, _ => .inl ⟨rfl, rfl⟩
 | p :: m, e :: es, i, hl, hp => by
  obtain ⟨e0, h0, h1⟩ := hp 0 p rfl
  simp at h0; subst h0
  have h2 := h k p.1
  by_cases hk : (k == p.1) = true
  ·refine .inr ⟨0, p, e, rfl, rfl, hk, ?_, ?_, fun v => ?_⟩
   ·simp only [Jm, hk, if_true]
   ·simp only [Instr.findNow, h1, h2, hk]; rfl
   ·simp only [Jv, hk, if_true]; rfl
  ·have hk' : (k == p.1) = false := by simpa using hk
   rcases Ik h k m es (i + 1) (by simpa using hl) (fun j q hq => hp (j + 1) q (by simpa using hq)) with ⟨g1, g2⟩ | ⟨j, q, e', g1, g2, g3, g4, g5, g6⟩
   ·refine .inl ⟨?_, ?_⟩
    ·simp only [Jm, hk']; exact g1
    ·simp only [Instr.findNow, h1, h2, hk']; exact g2
   ·refine .inr ⟨j + 1, q, e', by simpa using g1, by simpa using g2, g3, ?_, ?_, fun v => ?_⟩
    ·simp only [Jm, hk']; exact g4
    ·simp only [Instr.findNow, h1, h2, hk']; rw [g5]; simp [Nat.add_assoc, Nat.add_comm 1]
    ·simp only [Jv, hk']; rw [g6 v]; rfl
theorem JE {K V : Type} [BEq K] (k : K) (v : V) : ∀ {m : List (K × V)}, Jm k m = none → Jv k v m = m ++ [(k, v)]
 | [], _ => rfl
 | p :: m, h => by
  simp only [Jm] at h
  split at h
  ·cases h
  ·rename_i hk
   simp only [Jv]; rw [if_neg hk, JE k v h]; rfl
section run
variable {dr : Bool} {Q : St → Prop} {r i : Nat} {st : St} {log : List (Nat × CL)} {o : Oper} {gs : List (Operand × D)}
theorem NX {t s : Nat} (hat : At st.env ops i X.n (.makeMap t none) s gs) (hnew : st.bx s = none)
  (next : Bk P X ops dr Q r (i + 1) (CL.upd ⟨gs, [], some s, some (.e (.one (.mref s))), [(s, .mp [])], [s]⟩ st) ((i, ⟨gs, [], some s, some (.e (.one (.mref s))), [(s, .mp [])], [s]⟩) :: log)) : Bk P X ops dr Q (r + 1) i st log := by
 obtain ⟨o, ho, hop, hd, hn, hg, hgp⟩ := hat.out
 refine Bk.step next ⟨hgp, trivial, hnew, trivial⟩ (LR.value (rs := []) ho hg (by simp) hd.symm (Do hd hn) ?_)
 intro G st a w hs hpre
 have hnew := hpre.n.1
 have key := hs.newB (.map #[] 0) s (.mp []) undef (hs.nl hn) hnew
  ⟨w.heap.size, #[], 0, by simp [Gh.set], by rw [Dt, if_pos rfl], rfl, fun i x h => by simp at h⟩ (fun c hc => by cases hc)
 refine ⟨.map (some w.heap.size), _, _, ?_, key, ?_⟩
 ·simp only [execOp, hop]
  exact Al (a := .map (some w.heap.size)) (w1 := w.alloc (.map #[] 0)) rfl rfl
 ·rintro d ⟨⟩
  refine ⟨⟨w.heap.size, by simp [Gh.set], rfl⟩, fun b hb => ?_⟩
  simp [D.names, E.names, C.names] at hb
  subst hb; simp [Bl]
theorem C5.mpAt {G : Gh} {a : Act} {w : World} (hs : C5 P X G st a w) {x : Operand} {b : Nat} {es : List (Value × T)} (hx : Lift.opd st.env x = some (.e (.one (.mref b)))) (hb : st.bx b = some (.mp es)) :
  ∃ β arr clock, a.eval x = .map (some β) ∧ G.loc b = some β ∧ w.heap[β]? = some (.map arr clock) ∧ arr.size = es.length ∧ ∀ (i : Nat) (y : Value × T), es[i]? = some y → ∃ m : MapEntry, arr[i]? = some m ∧ m.key = y.1 ∧ Dr w G.S m.val y.2 := by
 obtain ⟨β, hβ, hv⟩ : Ev P w G (a.eval x) (.mref b) := hs.opd hx
 obtain ⟨β', arr, clock, h1, h2, h3, h4⟩ := hs.blk b _ hb
 rw [hβ] at h1; cases h1
 exact ⟨β, arr, clock, hv, hβ, h2, h3, h4⟩
theorem HP {β : Nat} {arr : Array MapEntry} {clock : Nat} {w : World} (h : w.heap[β]? = some (.map arr clock)) : (getObj β).run P w = .ok (.map arr clock) w := by
 simp [getObj, Sem.run, h]
theorem Kr {β : Nat} {arr : Array MapEntry} {clock : Nat} {o : Obj} {w : World} (h : w.heap[β]? = some (.map arr clock)) : (setObj β o).run P w = .ok () (Fw w β o) := by
 simp [setObj, Sem.run, h, Fw]
theorem G5 {K V : Type} [BEq K] {kt : TypeId} {kd : TypeDesc} {kv : K → Value} {k : K} {es : List MapEntry} {r : Option (Nat × Value)} {w : World} (hu : P.underlying kt = some kd) (h : Instr.findNow kd (kv k) es 0 = some r) : (Instr.findKey kt (kv k) es).run P w = .ok r w := by
 unfold Instr.findKey
 refine Al (AK hu w) ?_
 rw [h]; rfl
theorem Pd {K V : Type} [BEq K] {t s b el : Nat} {x y : Operand} {c : Bool} {z : Value} {kv : K → Value} {vt : V → T} {m : List (K × V)} {k : K} {dv v0 : V} (hat : At st.env ops i X.n (.lookup t x y c) s gs)
  (hx : opd st.env x = some (.e (.one (.mref b)))) (hy : opd st.env y = some (vD (kv k))) (hb : st.bx b = some (.mp (HF kv vt m))) (hk : OU P t kv) (hel : (match P.underlying t with | some (.map _ e) => e == el | _ => false) = true) (hz : DF P el = some z) (hzv : vt dv = .val z) (hz1 : FM z = true) (hv0 : (Jm k m).getD dv = v0)
  (next : Bk P X ops dr Q r (i + 1) (CL.upd ⟨gs ++ [(x, .e (.one (.mref b))), (y, vD (kv k))], [(b, .mp (HF kv vt m))], some s, some (if c then .tup [.one (.pure (vt v0)), .one (.pure (.val (.bool (Jm k m).isSome)))] else one (vt v0)), [], []⟩ st) ((i, ⟨gs ++ [(x, .e (.one (.mref b))), (y, vD (kv k))], [(b, .mp (HF kv vt m))], some s, some (if c then .tup [.one (.pure (vt v0)), .one (.pure (.val (.bool (Jm k m).isSome)))] else one (vt v0)), [], []⟩) :: log)) : Bk P X ops dr Q (r + 1) i st log := by
 obtain ⟨o, ho, hop, hd, hn, hg, hgp⟩ := hat.out
 refine Bk.step next ⟨Au.2 ⟨hgp, hx, hy, trivial⟩, ⟨hb, trivial⟩, trivial⟩ (LR.value ho hg rfl hd.symm (Do hd hn) ?_)
 intro G st a w hs hpre
 obtain ⟨hx, hy, _⟩ := (Au.1 hpre.r).2
 have hb := hpre.b.1
 obtain ⟨β, arr, clock, h1, h2, h3, h4, h5⟩ := hs.mpAt hx hb
 have hY : a.eval y = kv k := Eg (hs.opd hy : Dr w G.S (a.eval y) (.val _))
 obtain ⟨kt, el', kd, u1, u2, u3, u4⟩ := hk.ty
 rw [u1] at hel
 have hel' : el' = el := by simpa using hel
 subst hel'
 have hes : ∀ (j : Nat) (p : K × V), m[j]? = some p → ∃ e : MapEntry, arr.toList[j]? = some e ∧ e.key = kv p.1 ∧ Dr w G.S e.val (vt p.2) := fun j p hp => by
  obtain ⟨e, e1, e2, e3⟩ := h5 j (kv p.1, vt p.2) (by unfold HF; rw [List.getElem?_map, hp]; rfl)
  exact ⟨e, by simpa using e1, e2, e3⟩
 have hfin : ∃ v, (Instr.lookup t (.map (some β)) (kv k) c).run P w = .ok (if c then .tuple #[v, .bool (Jm k m).isSome] else v) w ∧ Dr w G.S v (vt v0) := by
  rcases Ik (V := V) u3 k m arr.toList 0 (by simp [h4, HF]) (fun j p hp => by obtain ⟨e, e1, e2, _⟩ := hes j p hp; exact ⟨e, e1, e2⟩) with ⟨g1, g2⟩ | ⟨j, q, e, g1, g2, g3, g4, g5, _⟩
  ·refine ⟨z, ?_, ?_⟩
   ·rw [g1]
    unfold Instr.lookup
    refine Al (AK u1 w) ?_
    refine Al (HP h3) ?_
    refine Al (a := arr) (w1 := w) rfl ?_
    refine Al (u4 _ _ _ _) ?_
    refine Al (G5 (V := V) u2 g2) ?_
    refine Al (Et hz w) ?_
    exact Al (a := (z, false)) (w1 := w) rfl rfl
   ·rw [← hv0, g1, Option.getD_none, hzv]; exact .val _ hz1
  ·refine ⟨e.val, ?_, ?_⟩
   ·rw [g4]
    unfold Instr.lookup
    refine Al (AK u1 w) ?_
    refine Al (HP h3) ?_
    refine Al (a := arr) (w1 := w) rfl ?_
    refine Al (u4 _ _ _ _) ?_
    refine Al (G5 (V := V) u2 g5) ?_
    exact Al (a := (e.val, true)) (w1 := w) rfl rfl
   ·obtain ⟨e', e1, _, e3⟩ := hes j q g1
    rw [g2] at e1; cases e1
    rw [← hv0, g4]; exact e3
 obtain ⟨v, hv1, hv2⟩ := hfin
 refine ⟨(if c then .tuple #[v, .bool (Jm k m).isSome] else v), w, G, ?_, hs, ?_⟩
 ·simp only [execOp, hop, h1, hY]
  exact Al hv1 rfl
 ·rintro d hd'
  cases c with
  | false => cases hd'; exact ⟨hv2, fun b hb => by cases hb⟩
  | true =>
   cases hd'
   refine ⟨⟨_, rfl, rfl, fun j x hj => ?_⟩, fun b hb => by simp [D.names, JJ, E.names, C.names] at hb⟩
   match j, hj with
   | 0, hj => cases hj; exact hv2
   | 1, hj => cases hj; exact .val _ rfl
theorem ML {K V : Type} [BEq K] {t b : Nat} {x y u : Operand} {kv : K → Value} {vt : V → T} {m m' : List (K × V)} {k : K} {v : V} {op : Op} (hat : Mi ops i = some op) (hop' : op = .mapUpdate t x y u ∨ op = .insert t x y u)
  (hx : opd st.env x = some (.e (.one (.mref b)))) (hy : opd st.env y = some (vD (kv k))) (hu : opd st.env u = some (one (vt v))) (hb : st.bx b = some (.mp (HF kv vt m))) (hk : OU P t kv) (hm : Jv k v m = m')
  (next : Bk P X ops dr Q r (i + 1) (CL.upd ⟨[(x, .e (.one (.mref b))), (y, vD (kv k)), (u, one (vt v))], [(b, .mp (HF kv vt m))], none, none, [(b, .mp (HF kv vt m'))], []⟩ st) ((i, ⟨[(x, .e (.one (.mref b))), (y, vD (kv k)), (u, one (vt v))], [(b, .mp (HF kv vt m))], none, none, [(b, .mp (HF kv vt m'))], []⟩) :: log)) : Bk P X ops dr Q (r + 1) i st log := by
 obtain ⟨o, ho, hop, hd, hgn⟩ := J8 hat
 have hg : Oh ops o [] := .none hgn
 refine Bk.step next ⟨⟨hx, hy, hu, trivial⟩, ⟨hb, trivial⟩, trivial⟩ (LR.skip (rs := [(x, .e (.one (.mref b))), (y, vD (kv k)), (u, one (vt v))]) ho hg rfl hd rfl ?_)
 intro G st a w hs hpre
 obtain ⟨hx, hy, hu, _⟩ := hpre.r
 have hb := hpre.b.1
 subst hm
 obtain ⟨β, arr, clock, h1, h2, h3, h4, h5⟩ := hs.mpAt hx hb
 have hY : a.eval y = kv k := Eg (hs.opd hy : Dr w G.S (a.eval y) (.val _))
 have hU : Dr w G.S (a.eval u) (vt v) := hs.opd hu
 obtain ⟨kt, el', kd, u1, u2, u3, u4⟩ := hk.ty
 have hes : ∀ (j : Nat) (p : K × V), m[j]? = some p → ∃ e : MapEntry, arr.toList[j]? = some e ∧ e.key = kv p.1 ∧ Dr w G.S e.val (vt p.2) := fun j p hp => by
  obtain ⟨e, e1, e2, e3⟩ := h5 j (kv p.1, vt p.2) (by unfold HF; rw [List.getElem?_map, hp]; rfl)
  exact ⟨e, by simpa using e1, e2, e3⟩
 have hat := hs.at_ok b _ β hb rfl (.inl h2)
 have hml : arr.size = m.length := by rw [h4]; simp [HF]
 have fin : ∀ arr' clock', arr'.size = (Jv k v m).length → (∀ (j : Nat) (p : K × V), (Jv k v m)[j]? = some p → ∃ e : MapEntry, arr'[j]? = some e ∧ e.key = kv p.1 ∧ Dr w G.S e.val (vt p.2)) →
   C5 P X G ⟨st.env, Bl st.bx [(b, .mp (HF kv vt (Jv k v m)))]⟩ a (Fw w β (.map arr' clock')) := by
  intro arr' clock' k1 k2
  have hS : ∀ γ, G.S γ → (Fw w β (.map arr' clock')).heap[γ]? = w.heap[γ]? := fun γ hγ => by
   rw [DD, if_neg (fun (h : γ = β ∧ β < w.heap.size) => hat.2.2 (h.1 ▸ hγ))]
  refine hs.setB (b := b) (k0 := .mp (HF kv vt m)) hb rfl rfl (.inl h2) ⟨β, arr', clock', h2, by rw [DD, if_pos ⟨rfl, hat.2.1⟩], by rw [k1]; simp [HF], fun j y hy => ?_⟩ (fun c hc => by cases hc)
  unfold HF at hy
  rw [List.getElem?_map] at hy
  cases hp : (Jv k v m)[j]? with
  | none => rw [hp] at hy; cases hy
  | some p =>
   rw [hp] at hy; cases hy
   obtain ⟨e, e1, e2, e3⟩ := k2 j p hp
   exact ⟨e, e1, e2, e3.mono hS fun _ h => h⟩
 have hrun : ∀ w', (Instr.mapUpdate t (.map (some β)) (kv k) (a.eval u)).run P w = .ok () w' → (execOp a.eval o).run P w = .ok .skip w' := fun w' h => by
  rcases hop' with e | e
  ·simp only [execOp, hop, e, h1, hY]; exact Al h rfl
  ·simp only [execOp, hop, e, h1, hY]; exact Al h rfl
 rcases Ik (V := V) u3 k m arr.toList 0 (by simp [hml]) (fun j p hp => by obtain ⟨e, e1, e2, _⟩ := hes j p hp; exact ⟨e, e1, e2⟩) with ⟨g1, g2⟩ | ⟨j, q, e, g1, g2, g3, g4, g5, g6⟩
 ·refine ⟨_, G, hrun _ ?_, fin (arr.push { key := kv k, val := a.eval u, born := clock }) (clock + 1) ?_ ?_⟩
  ·unfold Instr.mapUpdate
   refine Al (AK u1 w) ?_
   refine Al (HP h3) ?_
   refine Al (u4 _ _ _ _) ?_
   refine Al (G5 (V := V) u2 g2) ?_
   exact Kr h3
  ·rw [JE k v g1]; simp [hml]
  ·intro j p hp
   rw [JE k v g1] at hp
   by_cases hj : j < m.length
   ·rw [List.getElem?_append_left hj] at hp
    obtain ⟨e, e1, e2, e3⟩ := hes j p hp
    refine ⟨e, ?_, e2, e3⟩
    rw [Array.getElem?_push, if_neg (by omega)]
    simpa using e1
   ·rw [List.getElem?_append_right (by omega)] at hp
    have hj0 : j - m.length = 0 := by have := AL hp; simp at this; omega
    rw [hj0] at hp; cases hp
    exact ⟨{ key := kv k, val := a.eval u, born := clock }, by rw [Array.getElem?_push, if_pos (by omega)], rfl, hU⟩
 ·have hjm := AL g1
  have hje : arr[j]? = some e := by simpa using g2
  have hek : e.key = kv q.1 := by obtain ⟨e', e1, e2, _⟩ := hes j q g1; rw [g2] at e1; cases e1; exact e2
  refine ⟨_, G, hrun _ ?_, fin (arr.modify j fun e => { e with key := kv k, val := a.eval u }) clock ?_ ?_⟩
  ·unfold Instr.mapUpdate
   refine Al (AK u1 w) ?_
   refine Al (HP h3) ?_
   refine Al (u4 _ _ _ _) ?_
   refine Al (G5 (V := V) u2 g5) ?_
   simp only [Nat.zero_add]
   refine Al (a := kv k) (w1 := w) ?_ (Kr h3)
   rw [hje]
   simp only [Option.map_some, Option.getD_some]
   unfold Instr.keyThatStays
   rw [hek, hk.same k q.1 g3]; rfl
  ·rw [g6 v]; simp [hml]
  ·intro j' p hp
   rw [g6 v] at hp
   rw [Array.getElem?_modify]
   rcases Kf hp with ⟨rfl, rfl⟩ | ⟨hne, hp⟩
   ·rw [if_pos rfl, hje]
    exact ⟨_, rfl, rfl, hU⟩
   ·rw [if_neg (fun h => hne h.symm)]
    obtain ⟨e', e1, e2, e3⟩ := hes j' p hp
    exact ⟨e', by simpa using e1, e2, e3⟩
end run
end Go.Lift

/- Slices within slices that are nobody else's: taken out, put back, appended, given over to sharing. No condition. -/
namespace Go.Lift
open Go.RowKit
variable {P : Program} {X : H3} {ops : Array Oper}
section run
variable {dr : Bool} {Q : St → Prop} {r i : Nat} {st : St} {log : List (Nat × CL)} {o : Oper} {gs : List (Operand × D)}
def TF : Ow → Bool
 | .s => true
 | _ => false
end run
def Of (e : Nat) (cols : List Ow) (rows : List (List T)) : Bu := if cols.all TF then .vec e rows else .dvec e cols rows
section run
variable {dr : Bool} {Q : St → Prop} {r i : Nat} {st : St} {log : List (Nat × CL)} {o : Oper} {gs : List (Operand × D)}
end run
end Go.Lift

/- Slices within slices: append, and giving over to sharing. No condition. -/
namespace Go.Lift
open Go.RowKit
variable {P : Program} {X : H3} {ops : Array Oper}
section run
variable {dr : Bool} {Q : St → Prop} {r i : Nat} {st : St} {log : List (Nat × CL)} {o : Oper} {gs : List (Operand × D)}
structure Ll (w : World) (S : Nat → Prop) (e : Nat) (cols : List Ow) (rows : List (List T)) (Rf : Nat → Nat → Nat → Prop) (f : Nat → Value) : Prop where
 len : ∀ (i : Nat) (row : List T), rows[i]? = some row → row.length = e
 cell : ∀ (i : Nat) (row : List T) (j : Nat) (t : T), rows[i]? = some row → row[j]? = some t → Ob w S (cols.getD j .s) (Rf i j) (f (i * e + j)) t
 dis : ∀ i j i' j' γ, Rf i j γ → Rf i' j' γ → i = i' ∧ j = j'
theorem Ll.ones {w : World} {S : Nat → Prop} {e : Nat} {cols : List Ow} {rows : List (List T)} {Rf : Nat → Nat → Nat → Prop} {arr : Array Value} (h : Ll w S e cols rows Rf (Ay arr)) (hs : arr.size = rows.length * e) : ∀ u, u ∈ arr.toList → FM u = true := by
 intro u hu
 obtain ⟨k, hk⟩ := List.mem_iff_getElem?.1 hu
 have hk' : arr[k]? = some u := by simpa using hk
 have hlt : k < arr.size := by
  rcases Nat.lt_or_ge k arr.size with h' | h'
  ·exact h'
  ·rw [Array.getElem?_eq_none h'] at hk'; cases hk'
 rcases Nat.eq_zero_or_pos e with e0 | e0
 ·rw [e0, Nat.mul_zero] at hs; omega
 have h1 : k / e < rows.length := (Nat.div_lt_iff_lt_mul e0).2 (by omega)
 have h2 : k % e < e := Nat.mod_lt _ e0
 have hrow : rows[k / e]? = some rows[k / e] := by simp [h1]
 have hlen := h.len _ _ hrow
 have hcell : (rows[k / e])[k % e]? = some ((rows[k / e])[k % e]'(by omega)) := by simp [show k % e < rows[k / e].length from by omega]
 have := (h.cell _ _ _ _ hrow hcell).one
 rw [show k / e * e + k % e = k from by rw [Nat.mul_comm]; exact Nat.div_add_mod k e] at this
 simpa [Ay, hk'] using this
theorem Ll.app {w w' : World} {S : Nat → Prop} {e : Nat} {cols : List Ow} {rows rows2 : List (List T)} {Rf Rf2 : Nat → Nat → Nat → Prop} {f f2 g : Nat → Value} (h1 : Ll w S e cols rows Rf f) (h2 : Ll w S e cols rows2 Rf2 f2)
  (hx : ∀ i j i' j' γ, Rf i j γ → Rf2 i' j' γ → False) (hg1 : ∀ j, j < rows.length * e → g j = f j) (hg2 : ∀ j, j < rows2.length * e → g (rows.length * e + j) = f2 j)
  (hw : ∀ γ, S γ ∨ (∃ i j, Rf i j γ ∨ Rf2 i j γ) → w'.heap[γ]? = w.heap[γ]?) : Ll w' S e cols (rows ++ rows2) (fun i j γ => if i < rows.length then Rf i j γ else Rf2 (i - rows.length) j γ) g := by
 have hlen : ∀ (i : Nat) (row : List T), (rows ++ rows2)[i]? = some row → row.length = e := fun i row hi => by
  rcases Nat.lt_or_ge i rows.length with h | h
  ·rw [List.getElem?_append_left h] at hi; exact h1.len i row hi
  ·rw [List.getElem?_append_right h] at hi; exact h2.len _ row hi
 refine ⟨hlen, fun i row j t hi hj => ?_, fun i j i' j' γ hγ hγ' => ?_⟩
 ·have hj' := AL hj
  have he := hlen i row hi
  rcases Nat.lt_or_ge i rows.length with h | h
  ·rw [List.getElem?_append_left h] at hi
   have hle : i * e + e ≤ rows.length * e := by rw [← Nat.succ_mul]; exact Nat.mul_le_mul_right e h
   rw [hg1 _ (by omega)]
   exact (h1.cell i row j t hi hj).mono (fun γ hγ => hw γ (hγ.imp id fun hr => ⟨i, j, .inl hr⟩)) (fun _ h => h) (fun γ hγ => by rw [if_pos h]; exact hγ)
  ·rw [List.getElem?_append_right h] at hi
   have hi2 := AL hi
   have hle : (i - rows.length) * e + e ≤ rows2.length * e := by rw [← Nat.succ_mul]; exact Nat.mul_le_mul_right e hi2
   have hsplit : i * e + j = rows.length * e + ((i - rows.length) * e + j) := by
    rw [← Nat.add_assoc, ← Nat.add_mul, show rows.length + (i - rows.length) = i from by omega]
   rw [hsplit, hg2 _ (by omega)]
   exact (h2.cell _ row j t hi hj).mono (fun γ hγ => hw γ (hγ.imp id fun hr => ⟨_, j, .inr hr⟩)) (fun _ h => h) (fun γ hγ => by rw [if_neg (by omega)]; exact hγ)
 ·split at hγ <;> split at hγ'
  ·exact h1.dis i j i' j' γ hγ hγ'
  ·exact (hx _ _ _ _ γ hγ hγ').elim
  ·exact (hx _ _ _ _ γ hγ' hγ).elim
  ·have := h2.dis _ j _ j' γ hγ hγ'
   exact ⟨by omega, this.2⟩
end run
end Go.Lift

/- The rules for parts of own slices at typed lists. No condition. -/
namespace Go.Lift
open Go.RowKit
variable {P : Program} {X : H3} {ops : Array Oper}
theorem Gp {α : Type} (f : α → List T) (b e : Nat) (xs : List α) : J3 (.e (.one (.own b))) b e (xs.map f) 0 xs.length := by
 have := J3.own b e (xs.map f)
 rwa [List.length_map] at this
theorem JC {α : Type} (f : α → List T) (b e lo len : Nat) (xs : List α) (h : lo + len ≤ xs.length) : J3 (.e (.one (.view b e lo len))) b e (xs.map f) lo len := .view b e _ lo len (by simpa using h)
theorem N2 {α : Type} (f : α → List T) (b e lo len : Nat) (xs : List α) (h : lo + len ≤ xs.length) : La (.e (.one (.view b e lo len))) [(b, .vec e (xs.map f))] e (((xs.drop lo).take len).map f) := by
 have := La.view b e (xs.map f) lo len (by simpa using h)
 rwa [← List.map_drop, ← List.map_take] at this
theorem O2 {α : Type} (f : α → List T) (b e : Nat) (xs : List α) : La (.e (.one (.own b))) [(b, .vec e (xs.map f))] e (xs.map f) := .of (.own _ _ _)
theorem Pt {α : Type} (f : α → List T) (e : Nat) (xs : List α) (h : ∀ x, (f x).length = e) : La (one (.sl (xs.map f))) [] e (xs.map f) := .of (.sl _ _ (MR h xs))
section run
variable {dr : Bool} {Q : St → Prop} {r i : Nat} {st : St} {log : List (Nat × CL)} {o : Oper} {gs : List (Operand × D)}
theorem GV {α : Type} (f : α → List T) (xs : List α) {x : Operand} {t el s e l h b lo0 len lo1 len1 : Nat} {lo hi : Option Operand} {rl rh : List (Operand × D)} {d : D} (hat : At st.env ops i X.n (.slice t x lo hi none) s gs)
  (hx : opd st.env x = some d) (hD : J3 d b e (xs.map f) lo0 len) (hb : st.bx b = some (.vec e (xs.map f))) (ht : sliceB P t el = true) (he : Gq P el e = true) (hlo : Ph lo 0 l rl) (hhi : Ph hi len h rh) (h1 : EZ st.env rl) (h2 : EZ st.env rh) (hlh : l ≤ h) (hhl : lo0 + h ≤ xs.length) (e1 : lo0 + l = lo1) (e2 : h - l = len1)
  (next : Bk P X ops dr Q r (i + 1) (CL.upd ⟨gs ++ ((x, d) :: (rl ++ rh)), [(b, .vec e (xs.map f))], some s, some (.e (.one (.view b e lo1 len1))), [], []⟩ st) ((i, ⟨gs ++ ((x, d) :: (rl ++ rh)), [(b, .vec e (xs.map f))], some s, some (.e (.one (.view b e lo1 len1))), [], []⟩) :: log)) : Bk P X ops dr Q (r + 1) i st log := by
 subst e1; subst e2
 exact OJ hat hx hD hb ht he hlo hhi h1 h2 hlh (by simpa using hhl) next
theorem Nv {α : Type} (f : α → List T) (xs ys : List α) {x y : Operand} {t t2 el s e b lo len : Nat} {d d2 : D} {rb2 : List (Nat × Bu)} (hat : At st.env ops i X.n (.call ⟨.builtin .copy, #[x, y], #[t, t2]⟩) s gs)
  (hx : opd st.env x = some d) (hD : J3 d b e (xs.map f) lo len) (hb : st.bx b = some (.vec e (xs.map f))) (hy : opd st.env y = some d2) (hS : La d2 rb2 e (ys.map f)) (hb2 : Gm st.bx rb2) (ht : sliceB P t el = true) (he : Gq P el e = true)
  (next : Bk P X ops dr Q r (i + 1) (CL.upd ⟨gs ++ [(x, d), (y, d2)], (b, .vec e (xs.map f)) :: rb2, some s, some (vD (.int .i64 ((Nat.min ys.length len : Nat) : Int))), [(b, .vec e ((Hz xs lo (ys.take (Nat.min ys.length len))).map f))], []⟩ st) ((i, ⟨gs ++ [(x, d), (y, d2)], (b, .vec e (xs.map f)) :: rb2, some s, some (vD (.int .i64 ((Nat.min ys.length len : Nat) : Int))), [(b, .vec e ((Hz xs lo (ys.take (Nat.min ys.length len))).map f))], []⟩) :: log)) : Bk P X ops dr Q (r + 1) i st log := by
 have hl : (ys.map f).length = ys.length := List.length_map _
 refine Qy hat hx hD hb hy hS hb2 ht he (rows' := (Hz xs lo (ys.take (Nat.min ys.length len))).map f) ?_ ?_
 ·rw [hl, ← List.map_take, NN]
 ·rw [hl]; exact next
theorem MS {α : Type} (f : α → List T) (xs : List α) (z0 : α) {x : Operand} {t el b e lo len : Nat} {z : Value} {zs : List Value} {d : D} (hop0 : Mi ops i = some (.call ⟨.builtin .clear, #[x], #[t]⟩))
  (hx : opd st.env x = some d) (hD : J3 d b e (xs.map f) lo len) (hb : st.bx b = some (.vec e (xs.map f))) (ht : sliceB P t el = true) (hz : DF P el = some z) (hzs : z.cells.toList = zs) (hz1 : zs.all FM = true) (hze : zs.length = e) (hf : (zs.map fun v => (T.of v).nrm) = f z0)
  (next : Bk P X ops dr Q r (i + 1) (CL.upd ⟨[(x, d)], [(b, .vec e (xs.map f))], none, none, [(b, .vec e ((Hz xs lo (List.replicate len z0)).map f))], []⟩ st) ((i, ⟨[(x, d)], [(b, .vec e (xs.map f))], none, none, [(b, .vec e ((Hz xs lo (List.replicate len z0)).map f))], []⟩) :: log)) : Bk P X ops dr Q (r + 1) i st log := by
 refine Oi hop0 hx hD hb ht hz hzs hz1 hze (rows' := (Hz xs lo (List.replicate len z0)).map f) ?_ next
 rw [hf, ← NN]; simp
theorem PJ {x : Operand} {s t el b e lo len : Nat} (hat : At st.env ops i X.n (.call ⟨.builtin .len, #[x], #[t]⟩) s gs)
  (hx : opd st.env x = some (.e (.one (.view b e lo len)))) (ht : sliceB P t el = true)
  (next : Bk P X ops dr Q r (i + 1) (CL.upd ⟨gs ++ [(x, .e (.one (.view b e lo len)))], [], some s, some (vD (.int .i64 (len : Int))), [], []⟩ st) ((i, ⟨gs ++ [(x, .e (.one (.view b e lo len)))], [], some s, some (vD (.int .i64 (len : Int))), [], []⟩) :: log)) : Bk P X ops dr Q (r + 1) i st log := Qx hat hx ht next
end run
theorem L0 {α : Type} {st : St} (f : α → List T) (xs : List α) (s b e : Nat) (hs0 : st.env s = some (.e (.one (.own b)))) (hb : st.bx b = some (.vec e (xs.map f))) : Fs P X st (St.put st (some s) (some (.e (.one (.view b e 0 xs.length))))) := by
 have := NZ (P := P) (X := X) s b e (xs.map f) hs0 hb
 rwa [List.length_map] at this
theorem O0 {α : Type} {st : St} (f : α → List T) (xs : List α) (s b n e len : Nat) (hs0 : st.env s = some (.e (.one (.view b e 0 len)))) (hb : st.bx b = some (.vec e (xs.map f))) (hn : st.bx n = none) (hlb : BP b = false) (hln : BP n = false) (hle : len ≤ xs.length) :
  Fs P X st (St.put ⟨st.env, Bl st.bx [(n, .vec e ((xs.take len).map f)), (b, .gone)]⟩ (some s) (some (.e (.one (.own n))))) := by
 have := Oy (P := P) (X := X) s b n e len (xs.map f) hs0 hb hn hlb hln (by simpa using hle)
 rwa [← List.map_take] at this
theorem K5 (a b : ByteArray) : (a == b) = (a.data == b.data) := by
 cases a; cases b; rfl
theorem IN (a b : ByteArray) (h : (a == b) = true) : (b == a) = true := by
 rw [K5] at h ⊢
 rw [beq_iff_eq] at h ⊢; exact h.symm
theorem KV {c : Code} {Q : Exit → St → Prop} {st : St} (h : W P X c (fun e st => ∃ st', Fs P X st st' ∧ Q e st') st) : W P X c Q st := by
 intro a w hs
 refine wp_mono (h a w hs) ?_
 rintro e a' w' ⟨st', ⟨st2, h1, h2⟩, h3⟩
 exact ⟨st2, h2, h1 a' w' h3⟩
def Nw (f : Nat → Nat) (env : Nat → Option D) : List (Nat × D) → Prop
 | [] => True
 | (s, d) :: ps => env s = some (d.ren f) ∧ Nw f env ps
def NJ (f : Nat → Nat) (bx : Nat → Option Bu) : List (Nat × Bu) → Prop
 | [] => True
 | (b, k) :: ps => bx (f b) = some (k.ren f) ∧ NJ f bx ps
def EM : List (Nat × Bu) → List Nat
 | [] => []
 | (b, _) :: ps => b :: EM ps
def KK (f : Nat → Nat) : List Nat → Bool
 | [] => true
 | b :: bs => (if BP b then f b == b else !BP (f b)) && KK f bs
def Sn (b : Nat) : List Nat → Bool
 | [] => false
 | c :: cs => c == b || Sn b cs
def MA (ns : List Nat) : List (Nat × D) → Bool
 | [] => true
 | (_, d) :: ps => (d.names.all fun b => Sn b ns) && MA ns ps
def Mn (ns : List Nat) : List (Nat × Bu) → Bool
 | [] => true
 | (_, d) :: ps => (d.names.all fun b => Sn b ns) && Mn ns ps
theorem MJ {f : Nat → Nat} {env : Nat → Option D} : ∀ {el : List (Nat × D)}, Nw f env el → P8 f env el
 | [], _ => trivial
 | (_, _) :: _, h => ⟨h.1, MJ h.2⟩
theorem Md {f : Nat → Nat} {bx : Nat → Option Bu} : ∀ {bl : List (Nat × Bu)}, NJ f bx bl → PR f bx bl
 | [], _ => trivial
 | (_, _) :: _, h => ⟨h.1, Md h.2⟩
theorem Lz : ∀ bl : List (Nat × Bu), EM bl = bl.map (·.1)
 | [] => rfl
 | (b, k) :: ps => by simp [EM, Lz ps]
theorem Le {f : Nat → Nat} : ∀ bl : List (Nat × Bu), KK f (EM bl) = bl.all fun p => if BP p.1 then f p.1 == p.1 else !BP (f p.1)
 | [] => rfl
 | (b, k) :: ps => by simp only [EM, KK, List.all_cons, Le ps]
theorem Nl {b : Nat} : ∀ bl : List (Nat × Bu), Sn b (EM bl) = bl.any fun q => q.1 == b
 | [] => rfl
 | (c, k) :: ps => by simp only [EM, Sn, List.any_cons, Nl ps]
theorem MU (bl : List (Nat × Bu)) : ∀ el : List (Nat × D), MA (EM bl) el = el.all fun p => p.2.names.all fun b => bl.any fun q => q.1 == b
 | [] => rfl
 | (s, d) :: ps => by simp only [MA, List.all_cons, MU bl ps, Nl]
theorem Mh (bl : List (Nat × Bu)) : ∀ el : List (Nat × Bu), Mn (EM bl) el = el.all fun p => p.2.names.all fun b => bl.any fun q => q.1 == b
 | [] => rfl
 | (s, d) :: ps => by simp only [Mn, List.all_cons, Mh bl ps, Nl]
theorem Oj {st : St} (f : Nat → Nat) (el : List (Nat × D)) (bl : List (Nat × Bu)) (he : Nw f st.env el) (hb : NJ f st.bx bl) (hi : (Ho ((EM bl).map f) && KK f (EM bl)) = true) (hs : (MA (EM bl) el && Mn (EM bl) bl) = true) : Fs P X st (mk el bl) := by
 refine Qc f el bl (MJ he) (Md hb) ?_ ?_
 ·rw [Le, Lz] at hi; exact hi
 ·rw [MU, Mh] at hs; exact hs
theorem JH {dr : Bool} {Q : St → Prop} {r i : Nat} {st : St} {log : List (Nat × CL)} {gs : List (Operand × D)} {x y : Operand} {t s : Nat} {b : ByteArray} {k : IntKind} {n v : Int} (hat : At st.env ops i X.n (.index t x y) s gs)
  (hx : opd st.env x = some (vD (.string b))) (hy : opd st.env y = some (vD (.int k n))) (ht : Lr P t = true) (hv : N0 b n = some v)
  (next : Bk P X ops dr Q r (i + 1) (CL.upd ⟨gs ++ [(x, vD (.string b)), (y, vD (.int k n))], [], some s, some (vD (.int .u8 v)), [], []⟩ st) ((i, ⟨gs ++ [(x, vD (.string b)), (y, vD (.int k n))], [], some s, some (vD (.int .u8 v)), [], []⟩) :: log)) : Bk P X ops dr Q (r + 1) i st log := by
 obtain ⟨c, h0, hc, e⟩ := NY (f := some) (r := v) (by rw [hv]; rfl)
 cases e
 exact Or hat hx hy ht h0 hc next
theorem JG {t kt el : TypeId} (h1 : P.underlying t = some (.map kt el)) (h2 : P.underlying kt = some .string) : OU P t Value.string where
 ty := ⟨kt, el, .string, h1, h2, fun _ _ => rfl, fun e n v w => by
  unfold Instr.checkKey
  refine Al (AK h2 w) ?_
  rfl⟩
 same := fun a b h => by
  show (b == a) = true
  exact IN a b h
end Go.Lift

/- The rules once more, with few words: what 'rfl' shows is one equation of tuples. No condition. -/
namespace Go.Lift
open Go.RowKit
variable {P : Program} {X : H3} {ops : Array Oper}
def hd (env : Nat → Option D) (ops : Array Oper) (i n : Nat) : Option (Op × Nat × List (Operand × D)) := match SG ops i n with
 | some (op, s) => some (op, s, [])
 | none => match Tw ops i n with
  | some (op, s, t, want) => (match env t, want with
   | some (.e (.one (.pure (.val (.bool true))))), true => some (op, s, [(.tmp t, bD true)])
   | some (.e (.one (.pure (.val (.bool false))))), false => some (op, s, [(.tmp t, bD false)])
   | _, _ => none)
  | none => none
theorem CN {env : Nat → Option D} {n i s : Nat} {op : Op} {gs : List (Operand × D)} (h : hd env ops i n = some (op, s, gs)) : At env ops i n op s gs := by
 unfold hd at h
 split at h
 ·rename_i e; cases h; exact .p e
 ·split at h
  ·rename_i e
   split at h
   ·rename_i e2; cases h; exact .g e e2
   ·rename_i e2; cases h; exact .g e e2
   ·cases h
  ·cases h
theorem t2 {α β : Type} {a c : α} {b d : β} (h : (a, b) = (c, d)) : a = c ∧ b = d := Prod.mk.inj h
abbrev Nx (P : Program) (X : H3) (ops : Array Oper) (dr : Bool) (Q : St → Prop) (r i : Nat) (st : St) (log : List (Nat × CL)) (l : CL) : Prop := Bk P X ops dr Q r (i + 1) (CL.upd l st) ((i, l) :: log)
theorem sj {α : Type} {a b : α} (h : some a = some b) : a = b := Option.some.inj h
def OD (env : Nat → Option D) : List Operand → Option (List D)
 | [] => some []
 | x :: xs => match opd env x, OD env xs with
  | some d, some ds => some (d :: ds)
  | _, _ => none
theorem LX {env : Nat → Option D} : ∀ {xs : List Operand} {ds : List D}, OD env xs = some ds → xs.length = ds.length ∧ EZ env (Hx xs ds)
 | [], ds, h => by cases h; exact ⟨rfl, trivial⟩
 | x :: xs, ds, h => by
  simp only [OD] at h
  split at h
  ·rename_i e1 e2
   cases h
   have := LX e2
   exact ⟨by simp [this.1], e1, this.2⟩
  ·cases h
def Sx (bx : Nat → Option Bu) : List Nat → Option (List (Nat × Bu))
 | [] => some []
 | b :: bs => match bx b, Sx bx bs with
  | some k, some ks => some ((b, k) :: ks)
  | _, _ => none
theorem O8 {bx : Nat → Option Bu} : ∀ {l : List Nat} {bs : List (Nat × Bu)}, Sx bx l = some bs → Gm bx bs
 | [], bs, h => by cases h; trivial
 | b :: l, bs, h => by
  simp only [Sx] at h
  split at h
  ·rename_i e1 e2
   cases h
   exact ⟨e1, O8 e2⟩
  ·cases h
def Rk (env : Nat → Option D) : List (Nat × Operand) → Option (List (Nat × Operand × E))
 | [] => some []
 | p :: ps => match opd env p.2, Rk env ps with
  | some (.e y), some qs => some ((p.1, p.2, y) :: qs)
  | _, _ => none
theorem Ns {env : Nat → Option D} : ∀ {l : List (Nat × Operand)} {ps : List (Nat × Operand × E)}, Rk env l = some ps → l = (ps.map fun p => (p.1, p.2.1)) ∧ EZ env (GQ ps)
 | [], ps, h => by cases h; exact ⟨rfl, trivial⟩
 | p :: l, ps, h => by
  simp only [Rk] at h
  split at h
  ·rename_i e1 e2
   cases h
   have := Ns e2
   exact ⟨by rw [List.map_cons, ← this.1], e1, this.2⟩
  ·cases h
theorem O3 {env : Nat → Option D} {parts : Array (Nat × Operand)} {ps : List (Nat × Operand × E)} (h : Rk env parts.toList = some ps) : parts = (ps.map fun p => (p.1, p.2.1)).toArray ∧ EZ env (GQ ps) := by
 have := Ns h
 exact ⟨by rw [← this.1], this.2⟩
def Pm (k : Nat) : List (Nat × Operand × E) → Bool
 | [] => true
 | p :: ps => Nat.beq p.1 k && Pm (k + 1) ps
theorem NP : ∀ {k : Nat} {ps : List (Nat × Operand × E)}, Pm k ps = true → ps.map (·.1) = List.range' k ps.length
 | _, [], _ => rfl
 | k, p :: ps, h => by
  simp only [Pm, Bool.and_eq_true] at h
  rw [List.map_cons, List.length_cons, List.range'_succ, NP h.2, Nat.eq_of_beq_eq_true h.1]
def Ta : Option Bu → Bool
 | none => true
 | some _ => false
theorem L2 {bx : Nat → Option Bu} : ∀ {ns : List Nat}, (ns.all fun n => Ta (bx n)) = true → KI bx ns
 | [], _ => trivial
 | n :: ns, h => by
  simp only [List.all_cons, Bool.and_eq_true] at h
  refine ⟨?_, L2 h.2⟩
  have := h.1
  cases hb : bx n with
  | none => rfl
  | some k => rw [hb] at this; cases this
theorem Ld {ns : List Nat} (h : (Ho ns && (ns.all fun n => !BP n)) = true) : KS ns := by
 rw [Bool.and_eq_true] at h
 exact ⟨Ha h.1, fun c hc => by simpa using List.all_eq_true.1 h.2 c hc⟩
def Sw (env : Nat → Option D) : List (Nat × D) → List (Option D)
 | [] => []
 | (s, _) :: ps => env s :: Sw env ps
def Sr (f : Nat → Nat) : List (Nat × D) → List (Option D)
 | [] => []
 | (_, d) :: ps => some (d.ren f) :: Sr f ps
def Sv (f : Nat → Nat) (bx : Nat → Option Bu) : List (Nat × Bu) → List (Option Bu)
 | [] => []
 | (b, _) :: ps => bx (f b) :: Sv f bx ps
def Su (f : Nat → Nat) : List (Nat × Bu) → List (Option Bu)
 | [] => []
 | (_, k) :: ps => some (k.ren f) :: Su f ps
theorem Od {f : Nat → Nat} {env : Nat → Option D} : ∀ {el : List (Nat × D)}, Sw env el = Sr f el → Nw f env el
 | [], _ => trivial
 | (s, d) :: el, h => by
  simp only [Sw, Sr] at h
  obtain ⟨h1, h2⟩ := List.cons.inj h
  exact ⟨h1, Od h2⟩
theorem Oe {f : Nat → Nat} {bx : Nat → Option Bu} : ∀ {el : List (Nat × Bu)}, Sv f bx el = Su f el → NJ f bx el
 | [], _ => trivial
 | (s, d) :: el, h => by
  simp only [Sv, Su] at h
  obtain ⟨h1, h2⟩ := List.cons.inj h
  exact ⟨h1, Oe h2⟩
theorem sm {st : St} (l : List (Nat × Nat)) (el : List (Nat × D)) (bl : List (Nat × Bu)) (h : (Sw st.env el, Sv (rn l) st.bx bl) = (Sr (rn l) el, Su (rn l) bl)) (hi : ((Ho ((EM bl).map (rn l)) && KK (rn l) (EM bl)) && (MA (EM bl) el && Mn (EM bl) bl)) = true) : Fs P X st (mk el bl) :=
 Oj (rn l) el bl (Od (t2 h).1) (Oe (t2 h).2) (Bool.and_eq_true_iff.1 hi).1 (Bool.and_eq_true_iff.1 hi).2
section run
variable {dr : Bool} {Q : St → Prop} {r i : Nat} {st : St} {log : List (Nat × CL)} {gs : List (Operand × D)}
theorem qm {x : Operand} {d : D} {s : Nat} (h : (hd st.env ops i X.n, opd st.env x) = (some (.move x, s, gs), some d)) (next : Nx P X ops dr Q r i st log ⟨gs ++ [(x, d)], [], some s, some d, [], []⟩) : Bk P X ops dr Q (r + 1) i st log :=
 QC (CN (t2 h).1) (t2 h).2 next
theorem qa {x : Operand} {d : D} {s : Nat} (h : (hd st.env ops i X.n, opd st.env x) = (some (.assign x, s, gs), some d)) (next : Nx P X ops dr Q r i st log ⟨gs ++ [(x, d)], [], some s, some d, [], []⟩) : Bk P X ops dr Q (r + 1) i st log :=
 OY (CN (t2 h).1) (t2 h).2 next
theorem qn {j t s : Nat} {want : Bool} (h : (Rn ops i X.n, st.env t) = (some (j, s, t, want), some (bD (!want)))) (next : Nx P X ops dr Q r i st log ⟨[(.tmp t, bD (!want))], [], some s, some uD, [], []⟩) : Bk P X ops dr Q (r + 1) i st log :=
 QL (t2 h).1 (t2 h).2 next
theorem qu {j t s : Nat} {want : Bool} (h : (Rn ops i X.n, st.env t) = (some (j, s, t, want), some uD)) (next : Nx P X ops dr Q r i st log ⟨[(.tmp t, uD)], [], some s, some uD, [], []⟩) : Bk P X ops dr Q (r + 1) i st log :=
 Q0 (t2 h).1 (t2 h).2 next
theorem qp {c x y : Operand} {b : Bool} {d : D} {z : Operand} {s : Nat} (h : (hd st.env ops i X.n, opd st.env c, (if b then x else y), opd st.env z) = (some (.pick c x y, s, gs), some (bD b), z, some d)) (next : Nx P X ops dr Q r i st log ⟨gs ++ [(c, bD b), (z, d)], [], some s, some d, [], []⟩) : Bk P X ops dr Q (r + 1) i st log :=
 Ri (CN (t2 h).1) (t2 (t2 h).2).1 (t2 (t2 (t2 h).2).2).1 (t2 (t2 (t2 h).2).2).2 next
theorem qf {x : Operand} {b k f off s : Nat} {t : TypeId} (hf : CZ P t f off = true) (h : (hd st.env ops i X.n, opd st.env x) = (some (.fieldAddr t x f, s, gs), some (.e (.one (.ptr b k))))) (next : Nx P X ops dr Q r i st log ⟨gs ++ [(x, .e (.one (.ptr b k)))], [], some s, some (.e (.one (.ptr b (k + off)))), [], []⟩) : Bk P X ops dr Q (r + 1) i st log :=
 MN (CN (t2 h).1) (t2 h).2 hf next
theorem ql {x : Operand} {b k s : Nat} {cells : List C} {c : C} {t : TypeId} (ht : Ep P t false = true) (h : (hd st.env ops i X.n, opd st.env x, st.bx b, cells[k]?) = (some (.load t x, s, gs), some (.e (.one (.ptr b k))), some (.box cells), some c)) (next : Nx P X ops dr Q r i st log ⟨gs ++ [(x, .e (.one (.ptr b k)))], [(b, .box cells)], some s, some (.e (.one c)), [], []⟩) : Bk P X ops dr Q (r + 1) i st log :=
 PB (CN (t2 h).1) (t2 (t2 h).2).1 ht (t2 (t2 (t2 h).2).2).1 (t2 (t2 (t2 h).2).2).2 next
theorem qL {x : Operand} {b k n s : Nat} {cells cs : List C} {t : TypeId} (ht : Ep P t true = true) (hz : Gq P t n = true) (h : (hd st.env ops i X.n, opd st.env x, st.bx b, (cells.drop k).take n, cs.length) = (some (.load t x, s, gs), some (.e (.one (.ptr b k))), some (.box cells), cs, n)) (next : Nx P X ops dr Q r i st log ⟨gs ++ [(x, .e (.one (.ptr b k)))], [(b, .box cells)], some s, some (.e (.agg cs)), [], []⟩) : Bk P X ops dr Q (r + 1) i st log :=
 Qd (CN (t2 h).1) (t2 (t2 h).2).1 ht hz (t2 (t2 (t2 h).2).2).1 (t2 (t2 (t2 (t2 h).2).2).2).1 (t2 (t2 (t2 (t2 h).2).2).2).2 next
theorem qk {x : Operand} {s : Nat} {ts : List T} {u : T} {t : TypeId} (ht : Ep P t false = true) (h : (hd st.env ops i X.n, opd st.env x, ts[0]?) = (some (.load t x, s, gs), some (.e (.one (.rop ts))), some u)) (next : Nx P X ops dr Q r i st log ⟨gs ++ [(x, .e (.one (.rop ts)))], [], some s, some (one u), [], []⟩) : Bk P X ops dr Q (r + 1) i st log :=
 O5 (CN (t2 h).1) (t2 (t2 h).2).1 ht (t2 (t2 h).2).2 next
theorem qK {x : Operand} {s n : Nat} {ts us : List T} {t : TypeId} (ht : Ep P t true = true) (hz : Gq P t n = true) (h : (hd st.env ops i X.n, opd st.env x, ts.take n, us.length) = (some (.load t x, s, gs), some (.e (.one (.rop ts))), us, n)) (next : Nx P X ops dr Q r i st log ⟨gs ++ [(x, .e (.one (.rop ts)))], [], some s, some (.e (.agg (us.map C.pure))), [], []⟩) : Bk P X ops dr Q (r + 1) i st log :=
 OG (CN (t2 h).1) (t2 (t2 h).2).1 ht hz (t2 (t2 (t2 h).2).2).1 (t2 (t2 (t2 h).2).2).2 next
theorem qx {x : Operand} {xs : List E} {y : E} {k s : Nat} (h : (hd st.env ops i X.n, opd st.env x, xs[k]?) = (some (.extract x k, s, gs), some (.tup xs), some y)) (next : Nx P X ops dr Q r i st log ⟨gs ++ [(x, .tup xs)], [], some s, some (.e y), [], []⟩) : Bk P X ops dr Q (r + 1) i st log :=
 N7 (CN (t2 h).1) (t2 (t2 h).2).1 (t2 (t2 h).2).2 next
theorem qb {x : Operand} {y : E} {s : Nat} {el : TypeId} (h : (hd st.env ops i X.n, opd st.env x, st.bx s) = (some (.box el x, s, gs), some (.e y), none)) (next : Nx P X ops dr Q r i st log ⟨gs ++ [(x, .e y)], [], some s, some (.e (.one (.ptr s 0))), [(s, .box y.cells)], [s]⟩) : Bk P X ops dr Q (r + 1) i st log :=
 RS (CN (t2 h).1) (t2 (t2 h).2).1 (t2 (t2 h).2).2 next
theorem qz {z : Value} {zs : List Value} {s : Nat} {el : TypeId} (hz : DF P el = some z) (h : (hd st.env ops i X.n, z.cells.toList, zs.all FM, st.bx s) = (some (.alloc el, s, gs), zs, true, none)) (next : Nx P X ops dr Q r i st log ⟨gs ++ [], [], some s, some (.e (.one (.ptr s 0))), [(s, .box (zs.map fun v => C.pure (T.of v)))], [s]⟩) : Bk P X ops dr Q (r + 1) i st log :=
 PM (CN (t2 h).1) hz (t2 (t2 h).2).1 (t2 (t2 (t2 h).2).2).1 (t2 (t2 (t2 h).2).2).2 next
theorem qs {x y : Operand} {b k n : Nat} {cells cells' : List C} {v : E} {t : TypeId} (hz : Gq P t n = true) (h : (Mi ops i, opd st.env x, opd st.env y, st.bx b, v.cells.length, Nat.ble (k + n) (cells.length), Hs cells k v.cells) = (some (.store t x y), some (.e (.one (.ptr b k))), some (.e v), some (.box cells), n, true, cells')) (next : Nx P X ops dr Q r i st log ⟨[(x, .e (.one (.ptr b k))), (y, .e v)], [(b, .box cells)], none, none, [(b, .box cells')], []⟩) : Bk P X ops dr Q (r + 1) i st log :=
 P9 (t2 h).1 (t2 (t2 h).2).1 (t2 (t2 (t2 h).2).2).1 (t2 (t2 (t2 (t2 h).2).2).2).1 hz (t2 (t2 (t2 (t2 (t2 h).2).2).2).2).1 (Nat.le_of_ble_eq_true (t2 (t2 (t2 (t2 (t2 (t2 h).2).2).2).2).2).1) (t2 (t2 (t2 (t2 (t2 (t2 h).2).2).2).2).2).2 next
theorem qi {x y : Operand} {s e : Nat} {rows : List (List T)} {row : List T} {t el : TypeId} {k : IntKind} {n : Int} (ht : sliceB P t el = true) (hz : Gq P el e = true) (h0 : 0 ≤ n) (hrow : rows[n.toNat]? = some row) (h : (hd st.env ops i X.n, opd st.env x, opd st.env y, row.length) = (some (.indexAddr t x y, s, gs), some (one (.sl rows)), some (vD (.int k n)), e)) (next : Nx P X ops dr Q r i st log ⟨gs ++ [(x, one (.sl rows)), (y, vD (.int k n))], [], some s, some (.e (.one (.rop row))), [], []⟩) : Bk P X ops dr Q (r + 1) i st log :=
 Qb (CN (t2 h).1) (t2 (t2 h).2).1 (t2 (t2 (t2 h).2).2).1 ht hz h0 hrow (t2 (t2 (t2 h).2).2).2 next
theorem qI {x y : Operand} {s e b : Nat} {rows : List (List T)} {row : List T} {t el : TypeId} {k : IntKind} {n : Int} (ht : sliceB P t el = true) (hz : Gq P el e = true) (h0 : 0 ≤ n) (hrow : rows[n.toNat]? = some row) (h : (hd st.env ops i X.n, opd st.env x, opd st.env y, st.bx b) = (some (.indexAddr t x y, s, gs), some (.e (.one (.own b))), some (vD (.int k n)), some (.vec e rows))) (next : Nx P X ops dr Q r i st log ⟨gs ++ [(x, .e (.one (.own b))), (y, vD (.int k n))], [(b, .vec e rows)], some s, some (.e (.one (.eptr b e n.toNat 0))), [], []⟩) : Bk P X ops dr Q (r + 1) i st log :=
 O4 (CN (t2 h).1) (t2 (t2 h).2).1 (t2 (t2 (t2 h).2).2).1 (t2 (t2 (t2 h).2).2).2 ht hz h0 hrow next
theorem qj {x : Operand} {b e ix k s : Nat} {rows : List (List T)} {row : List T} {u : T} {t : TypeId} (ht : Ep P t false = true) (hrow : rows[ix]? = some row) (h : (hd st.env ops i X.n, opd st.env x, st.bx b, row[k]?) = (some (.load t x, s, gs), some (.e (.one (.eptr b e ix k))), some (.vec e rows), some u)) (next : Nx P X ops dr Q r i st log ⟨gs ++ [(x, .e (.one (.eptr b e ix k)))], [(b, .vec e rows)], some s, some (one u), [], []⟩) : Bk P X ops dr Q (r + 1) i st log :=
 Pe (CN (t2 h).1) (t2 (t2 h).2).1 ht (t2 (t2 (t2 h).2).2).1 hrow (t2 (t2 (t2 h).2).2).2 next
theorem qJ {x : Operand} {b e ix s : Nat} {rows : List (List T)} {row : List T} {t : TypeId} (ht : Ep P t true = true) (hz : Gq P t e = true) (hrow : rows[ix]? = some row) (h : (hd st.env ops i X.n, opd st.env x, st.bx b) = (some (.load t x, s, gs), some (.e (.one (.eptr b e ix 0))), some (.vec e rows))) (next : Nx P X ops dr Q r i st log ⟨gs ++ [(x, .e (.one (.eptr b e ix 0)))], [(b, .vec e rows)], some s, some (.e (.agg (row.map C.pure))), [], []⟩) : Bk P X ops dr Q (r + 1) i st log :=
 Jj (CN (t2 h).1) (t2 (t2 h).2).1 ht hz (t2 (t2 h).2).2 hrow next
theorem K8 {x : Operand} {s b k : Nat} (h : (hd st.env ops i X.n, opd st.env x) = (some (.nilCheck x, s, gs), some (.e (.one (.ptr b k))))) (next : Nx P X ops dr Q r i st log ⟨gs ++ [(x, .e (.one (.ptr b k)))], [], some s, some (.e (.one (.ptr b k))), [], []⟩) : Bk P X ops dr Q (r + 1) i st log :=
 M2 (CN (t2 h).1) (t2 h).2 next
theorem AQ {k : IntKind} {xt yt : TypeId} {x y : Operand} {a b : Int} {s : Nat} (h : (hd st.env ops i X.n, opd st.env x, opd st.env y) = (some (.binOp .add xt x y yt, s, gs), some (vD (.int k a)), some (vD (.int k b)))) (next : Nx P X ops dr Q r i st log ⟨gs ++ [(x, vD (.int k a)), (y, vD (.int k b))], [], some s, some (vD (.int k (k.wrap (a + b)))), [], []⟩) : Bk P X ops dr Q (r + 1) i st log :=
 Gk (CN (t2 h).1) (t2 (t2 h).2).1 (t2 (t2 h).2).2 (Qa _ _ _ _ _ _) rfl next
theorem Cl {k : IntKind} {xt yt : TypeId} {x y : Operand} {a b : Int} {s : Nat} (h : (hd st.env ops i X.n, opd st.env x, opd st.env y) = (some (.binOp .sub xt x y yt, s, gs), some (vD (.int k a)), some (vD (.int k b)))) (next : Nx P X ops dr Q r i st log ⟨gs ++ [(x, vD (.int k a)), (y, vD (.int k b))], [], some s, some (vD (.int k (k.wrap (a - b)))), [], []⟩) : Bk P X ops dr Q (r + 1) i st log :=
 Gk (CN (t2 h).1) (t2 (t2 h).2).1 (t2 (t2 h).2).2 (Ps _ _ _ _ _ _) rfl next
theorem G6 {k : IntKind} {xt yt : TypeId} {x y : Operand} {a b : Int} {s : Nat} (h : (hd st.env ops i X.n, opd st.env x, opd st.env y) = (some (.binOp .mul xt x y yt, s, gs), some (vD (.int k a)), some (vD (.int k b)))) (next : Nx P X ops dr Q r i st log ⟨gs ++ [(x, vD (.int k a)), (y, vD (.int k b))], [], some s, some (vD (.int k (k.wrap (a * b)))), [], []⟩) : Bk P X ops dr Q (r + 1) i st log :=
 Gk (CN (t2 h).1) (t2 (t2 h).2).1 (t2 (t2 h).2).2 (PA _ _ _ _ _ _) rfl next
theorem Cm {k : IntKind} {xt yt : TypeId} {x y : Operand} {a b : Int} {s : Nat} (h : (hd st.env ops i X.n, opd st.env x, opd st.env y) = (some (.binOp .eql xt x y yt, s, gs), some (vD (.int k a)), some (vD (.int k b)))) (next : Nx P X ops dr Q r i st log ⟨gs ++ [(x, vD (.int k a)), (y, vD (.int k b))], [], some s, some (vD (.bool (a == b))), [], []⟩) : Bk P X ops dr Q (r + 1) i st log :=
 Gk (CN (t2 h).1) (t2 (t2 h).2).1 (t2 (t2 h).2).2 (Pj _ _ _ _ _ _) rfl next
theorem Cd {k : IntKind} {xt yt : TypeId} {x y : Operand} {a b : Int} {s : Nat} (h : (hd st.env ops i X.n, opd st.env x, opd st.env y) = (some (.binOp .neq xt x y yt, s, gs), some (vD (.int k a)), some (vD (.int k b)))) (next : Nx P X ops dr Q r i st log ⟨gs ++ [(x, vD (.int k a)), (y, vD (.int k b))], [], some s, some (vD (.bool (a != b))), [], []⟩) : Bk P X ops dr Q (r + 1) i st log :=
 Gk (CN (t2 h).1) (t2 (t2 h).2).1 (t2 (t2 h).2).2 (PI _ _ _ _ _ _) rfl next
theorem AT {k : IntKind} {xt yt : TypeId} {x y : Operand} {a b : Int} {s : Nat} (h : (hd st.env ops i X.n, opd st.env x, opd st.env y) = (some (.binOp .lss xt x y yt, s, gs), some (vD (.int k a)), some (vD (.int k b)))) (next : Nx P X ops dr Q r i st log ⟨gs ++ [(x, vD (.int k a)), (y, vD (.int k b))], [], some s, some (vD (.bool (decide (a < b)))), [], []⟩) : Bk P X ops dr Q (r + 1) i st log :=
 Gk (CN (t2 h).1) (t2 (t2 h).2).1 (t2 (t2 h).2).2 (PW _ _ _ _ _ _) rfl next
theorem Id {k : IntKind} {xt yt : TypeId} {x y : Operand} {a b : Int} {s : Nat} (h : (hd st.env ops i X.n, opd st.env x, opd st.env y) = (some (.binOp .leq xt x y yt, s, gs), some (vD (.int k a)), some (vD (.int k b)))) (next : Nx P X ops dr Q r i st log ⟨gs ++ [(x, vD (.int k a)), (y, vD (.int k b))], [], some s, some (vD (.bool (decide (a ≤ b)))), [], []⟩) : Bk P X ops dr Q (r + 1) i st log :=
 Gk (CN (t2 h).1) (t2 (t2 h).2).1 (t2 (t2 h).2).2 (Pl _ _ _ _ _ _) rfl next
theorem Es {k : IntKind} {xt yt : TypeId} {x y : Operand} {a b : Int} {s : Nat} (h : (hd st.env ops i X.n, opd st.env x, opd st.env y) = (some (.binOp .gtr xt x y yt, s, gs), some (vD (.int k a)), some (vD (.int k b)))) (next : Nx P X ops dr Q r i st log ⟨gs ++ [(x, vD (.int k a)), (y, vD (.int k b))], [], some s, some (vD (.bool (decide (b < a)))), [], []⟩) : Bk P X ops dr Q (r + 1) i st log :=
 Gk (CN (t2 h).1) (t2 (t2 h).2).1 (t2 (t2 h).2).2 (PL _ _ _ _ _ _) rfl next
theorem Dl {k : IntKind} {xt yt : TypeId} {x y : Operand} {a b : Int} {s : Nat} (h : (hd st.env ops i X.n, opd st.env x, opd st.env y) = (some (.binOp .geq xt x y yt, s, gs), some (vD (.int k a)), some (vD (.int k b)))) (next : Nx P X ops dr Q r i st log ⟨gs ++ [(x, vD (.int k a)), (y, vD (.int k b))], [], some s, some (vD (.bool (decide (b ≤ a)))), [], []⟩) : Bk P X ops dr Q (r + 1) i st log :=
 Gk (CN (t2 h).1) (t2 (t2 h).2).1 (t2 (t2 h).2).2 (PP _ _ _ _ _ _) rfl next
theorem J2 {k : IntKind} {xt yt : TypeId} {x y : Operand} {a b : Int} {s : Nat} (h : (hd st.env ops i X.n, opd st.env x, opd st.env y) = (some (.binOp .and xt x y yt, s, gs), some (vD (.int k a)), some (vD (.int k b)))) (next : Nx P X ops dr Q r i st log ⟨gs ++ [(x, vD (.int k a)), (y, vD (.int k b))], [], some s, some (vD (.int k (Gi k a b))), [], []⟩) : Bk P X ops dr Q (r + 1) i st log :=
 Gk (CN (t2 h).1) (t2 (t2 h).2).1 (t2 (t2 h).2).2 (Qe _ _ _ _ _ _) rfl next
theorem Nk {k : IntKind} {xt yt : TypeId} {x y : Operand} {a b : Int} {s : Nat} (h : (hd st.env ops i X.n, opd st.env x, opd st.env y) = (some (.binOp .or xt x y yt, s, gs), some (vD (.int k a)), some (vD (.int k b)))) (next : Nx P X ops dr Q r i st log ⟨gs ++ [(x, vD (.int k a)), (y, vD (.int k b))], [], some s, some (vD (.int k (IT k a b))), [], []⟩) : Bk P X ops dr Q (r + 1) i st log :=
 Gk (CN (t2 h).1) (t2 (t2 h).2).1 (t2 (t2 h).2).2 (Re _ _ _ _ _ _) rfl next
theorem GJ {k : IntKind} {xt yt : TypeId} {x y : Operand} {a b : Int} {s : Nat} (h : (hd st.env ops i X.n, opd st.env x, opd st.env y) = (some (.binOp .andNot xt x y yt, s, gs), some (vD (.int k a)), some (vD (.int k b)))) (next : Nx P X ops dr Q r i st log ⟨gs ++ [(x, vD (.int k a)), (y, vD (.int k b))], [], some s, some (vD (.int k (C3 k a b))), [], []⟩) : Bk P X ops dr Q (r + 1) i st log :=
 Gk (CN (t2 h).1) (t2 (t2 h).2).1 (t2 (t2 h).2).2 (M0 _ _ _ _ _ _) rfl next
theorem Oq {k : IntKind} {xt yt : TypeId} {x y : Operand} {a b : Int} {s : Nat} (h : (hd st.env ops i X.n, opd st.env x, opd st.env y) = (some (.binOp .xor xt x y yt, s, gs), some (vD (.int k a)), some (vD (.int k b)))) (next : Nx P X ops dr Q r i st log ⟨gs ++ [(x, vD (.int k a)), (y, vD (.int k b))], [], some s, some (vD (.int k (Fo k a b))), [], []⟩) : Bk P X ops dr Q (r + 1) i st log :=
 Gk (CN (t2 h).1) (t2 (t2 h).2).1 (t2 (t2 h).2).2 (Pp _ _ _ _ _ _) rfl next
theorem Gz {k k' : IntKind} {xt yt : TypeId} {x y : Operand} {a b : Int} {s : Nat} (h : (hd st.env ops i X.n, opd st.env x, opd st.env y) = (some (.binOp .shl xt x y yt, s, gs), some (vD (.int k a)), some (vD (.int k' b)))) (hc : 0 ≤ b) (next : Nx P X ops dr Q r i st log ⟨gs ++ [(x, vD (.int k a)), (y, vD (.int k' b))], [], some s, some (vD (.int k (Cn k a b))), [], []⟩) : Bk P X ops dr Q (r + 1) i st log :=
 Gk (CN (t2 h).1) (t2 (t2 h).2).1 (t2 (t2 h).2).2 (PS _ _ _ _ _ _ _ hc) rfl next
theorem Gj {k k' : IntKind} {xt yt : TypeId} {x y : Operand} {a b : Int} {s : Nat} (h : (hd st.env ops i X.n, opd st.env x, opd st.env y) = (some (.binOp .shr xt x y yt, s, gs), some (vD (.int k a)), some (vD (.int k' b)))) (hc : 0 ≤ b) (next : Nx P X ops dr Q r i st log ⟨gs ++ [(x, vD (.int k a)), (y, vD (.int k' b))], [], some s, some (vD (.int k (DZ k a b))), [], []⟩) : Bk P X ops dr Q (r + 1) i st log :=
 Gk (CN (t2 h).1) (t2 (t2 h).2).1 (t2 (t2 h).2).2 (PQ _ _ _ _ _ _ _ hc) rfl next
theorem Jd {k : IntKind} {xt yt : TypeId} {x y : Operand} {a b : Int} {s : Nat} (h : (hd st.env ops i X.n, opd st.env x, opd st.env y) = (some (.binOp .rem xt x y yt, s, gs), some (vD (.int k a)), some (vD (.int k b)))) (hc : b ≠ 0) (next : Nx P X ops dr Q r i st log ⟨gs ++ [(x, vD (.int k a)), (y, vD (.int k b))], [], some s, some (vD (.int k (a.tmod b))), [], []⟩) : Bk P X ops dr Q (r + 1) i st log :=
 Gk (CN (t2 h).1) (t2 (t2 h).2).1 (t2 (t2 h).2).2 (Pu _ _ _ _ _ _ hc) rfl next
theorem KU {k : IntKind} {xt yt : TypeId} {x y : Operand} {a b : Int} {s : Nat} (h : (hd st.env ops i X.n, opd st.env x, opd st.env y) = (some (.binOp .quo xt x y yt, s, gs), some (vD (.int k a)), some (vD (.int k b)))) (hc : b ≠ 0) (next : Nx P X ops dr Q r i st log ⟨gs ++ [(x, vD (.int k a)), (y, vD (.int k b))], [], some s, some (vD (.int k (k.wrap (a.tdiv b)))), [], []⟩) : Bk P X ops dr Q (r + 1) i st log :=
 Gk (CN (t2 h).1) (t2 (t2 h).2).1 (t2 (t2 h).2).2 (Px _ _ _ _ _ _ hc) rfl next
theorem Cy {xt : TypeId} {x : Operand} {b : Bool} {s : Nat} (h : (hd st.env ops i X.n, opd st.env x) = (some (.unOp .not xt x, s, gs), some (bD b))) (next : Nx P X ops dr Q r i st log ⟨gs ++ [(x, bD b)], [], some s, some (vD (.bool (!b))), [], []⟩) : Bk P X ops dr Q (r + 1) i st log :=
 Ts (CN (t2 h).1) (t2 h).2 (Rd _) rfl next
theorem FH {xt yt : TypeId} {k k' : IntKind} {x : Operand} {a : Int} {s : Nat} (hs : (P.underlying xt).isSome = true) (ht : KR P yt k = true) (h : (hd st.env ops i X.n, opd st.env x) = (some (.convert xt yt x, s, gs), some (vD (.int k' a)))) (next : Nx P X ops dr Q r i st log ⟨gs ++ [(x, vD (.int k' a))], [], some s, some (vD (.int k (k.wrap a))), [], []⟩) : Bk P X ops dr Q (r + 1) i st log :=
 Rh (CN (t2 h).1) (t2 h).2 (On hs ht _ _) rfl next
theorem AN {α : Type} {f : α → List T} {xs : List α} {x : Operand} {s : Nat} {t el : TypeId} (ht : sliceB P t el = true) (h : (hd st.env ops i X.n, opd st.env x) = (some (.call ⟨.builtin .len, #[x], #[t]⟩, s, gs), some (one (.sl (xs.map f))))) (next : Nx P X ops dr Q r i st log ⟨gs ++ [(x, one (.sl (xs.map f)))], [], some s, some (vD (.int .i64 (xs.length : Int))), [], []⟩) : Bk P X ops dr Q (r + 1) i st log :=
 Qv (CN (t2 h).1) (t2 h).2 (.sl _) trivial (List.length_map _) ht next
theorem Dj {α : Type} {f : α → List T} {xs : List α} {x : Operand} {s b e : Nat} {t el : TypeId} (ht : sliceB P t el = true) (h : (hd st.env ops i X.n, opd st.env x, st.bx b) = (some (.call ⟨.builtin .len, #[x], #[t]⟩, s, gs), some (.e (.one (.own b))), some (.vec e (xs.map f)))) (next : Nx P X ops dr Q r i st log ⟨gs ++ [(x, .e (.one (.own b)))], [(b, .vec e (xs.map f))], some s, some (vD (.int .i64 (xs.length : Int))), [], []⟩) : Bk P X ops dr Q (r + 1) i st log :=
 Qv (CN (t2 h).1) (t2 (t2 h).2).1 (.own _ _ _) ⟨(t2 (t2 h).2).2, trivial⟩ (List.length_map _) ht next
theorem C4 {t : TypeId} {s : Nat} {z : Value} {zs : List Value} {pl : List (Nat × Nat)} {cells : List C} {parts : Array (Nat × Operand)} {ps : List (Nat × Operand × E)} (hz : DF P t = some z) (hpl : Hb P t = some pl) (h : (hd st.env ops i X.n, Rk st.env parts.toList, z.cells.toList, zs.all FM, Jp (pl[·]?) (zs.map fun v => C.pure (T.of v)) (ps.map fun p => (p.1, p.2.2))) = (some (.build t parts, s, gs), some ps, zs, true, some cells)) (next : Nx P X ops dr Q r i st log ⟨gs ++ GQ ps, [], some s, some (.e (.agg cells)), [], []⟩) : Bk P X ops dr Q (r + 1) i st log :=
 have q := O3 (t2 (t2 h).2).1
 PU ps (CN (t2 h).1) (by rw [← q.1]) q.2 hz (t2 (t2 (t2 h).2).2).1 (t2 (t2 (t2 (t2 h).2).2).2).1 hpl (t2 (t2 (t2 (t2 h).2).2).2).2 next
theorem Er {t el : TypeId} {s n e : Nat} {z : Value} {rows : List (List T)} {parts : Array (Nat × Operand)} {ps : List (Nat × Operand × E)} (ht : sliceB P t el = true) (he : Gq P el e = true) (hz : DF P el = some z) (h : (hd st.env ops i X.n, Rk st.env parts.toList, st.bx s, Pm 0 ps, ps.length, Nat.ble (n * e) 16777216, (ps.map fun p => (p.1, p.2.2)).mapM (fun p => p.2.ts), rows.all (fun row => row.length == e)) = (some (.buildSlice t n parts, s, gs), some ps, none, true, n, true, some rows, true)) (next : Nx P X ops dr Q r i st log ⟨gs ++ GQ ps, [], some s, some (.e (.one (.own s))), [(s, .vec e rows)], [s]⟩) : Bk P X ops dr Q (r + 1) i st log :=
 have q := O3 (t2 (t2 h).2).1
 have g := (t2 (t2 (t2 h).2).2).2
 LM ps (CN (t2 h).1) (by rw [← q.1]) q.2 (t2 (t2 (t2 h).2).2).1 ht he hz (NP (t2 g).1) (t2 (t2 g).2).1 (Nat.le_of_ble_eq_true (t2 (t2 (t2 g).2).2).1) (t2 (t2 (t2 (t2 g).2).2).2).1 (t2 (t2 (t2 (t2 g).2).2).2).2 next
theorem AC {f s : Nat} {xs : List Operand} {ds0 ds : List D} {rv : List (Nat × List (List T))} {res : D} {ts : Array TypeId} (ns : List Nat) (hc : Az P f ds rv res) (hf : AE P f = true) (h : (hd st.env ops i X.n, OD st.env xs, ds0.map D.nrm, ds.all Ov, ns.length, Ho ns && (ns.all fun n => !BP n), ns.all (fun n => Ta (st.bx n)), res.names.all (fun b => decide (b < rv.length))) = (some (.call ⟨.value (.func f), xs.toArray, ts⟩, s, gs), some ds0, ds, true, rv.length, true, true, true)) (next : Nx P X ops dr Q r i st log ⟨gs ++ Hx xs ds0, [], some s, some (res.ren (nm ns)), H8 ns rv, ns⟩) : Bk P X ops dr Q (r + 1) i st log :=
 have q := LX (t2 (t2 h).2).1
 have g := (t2 (t2 (t2 h).2).2).2
 QF ns hc (CN (t2 h).1) hf q.1 q.2 (t2 (t2 (t2 h).2).2).1 (t2 g).1 (t2 (t2 g).2).1 (Ld (t2 (t2 (t2 g).2).2).1) (L2 (t2 (t2 (t2 (t2 g).2).2).2).1) (t2 (t2 (t2 (t2 g).2).2).2).2 next
theorem Fb {f s : Nat} {xs : List Operand} {ds0 ds : List D} {rv : List (Nat × List (List T))} {res : D} {ts : Array TypeId} {bs : List (Nat × Bu)} (ns lb : List Nat) (hc : Az P f ds rv res) (hf : AE P f = true) (hfv : Mv rv) (h : (hd st.env ops i X.n, OD st.env xs, Sx st.bx lb, ds0.map (fun d => (d.lend bs).nrm), ds.all Ov, ns.length, Ho ns && (ns.all fun n => !BP n), ns.all (fun n => Ta (st.bx n)), res.flat, res.names.all (fun b => decide (b < rv.length))) = (some (.call ⟨.value (.func f), xs.toArray, ts⟩, s, gs), some ds0, some bs, ds, true, rv.length, true, true, true, true)) (next : Nx P X ops dr Q r i st log ⟨gs ++ Hx xs ds0, bs, some s, some (res.ren (nm ns)), H8 ns rv, ns⟩) : Bk P X ops dr Q (r + 1) i st log :=
 have q := LX (t2 (t2 h).2).1
 have g := (t2 (t2 (t2 h).2).2).2
 have g2 := (t2 (t2 (t2 g).2).2).2
 PC ns bs hc (CN (t2 h).1) hf q.1 q.2 (O8 (t2 (t2 (t2 h).2).2).1) (t2 g).1 (t2 (t2 g).2).1 (t2 (t2 (t2 g).2).2).1 (Ld (t2 g2).1) (L2 (t2 (t2 g2).2).1) (t2 (t2 (t2 g2).2).2).1 hfv (t2 (t2 (t2 g2).2).2).2 next
theorem DE {α : Type} {f : α → List T} {xs : List α} {ys : List α} {x y : Operand} {t t2' el el2 s e bytes b b2 : Nat} {z : Value} (ht : sliceB P t el = true) (ht2 : sliceB P t2' el2 = true) (he : Gq P el e = true) (hby : EJ P el bytes = true) (hz : DF P el = some z) (hlim : xs.length + ys.length ≤ Fz) (h : (hd st.env ops i X.n, opd st.env x, st.bx b, opd st.env y, st.bx b2, st.bx s, z.cells.size, Nat.ble bytes 4096, [b].all (fun b => !BP b)) = (some (.call ⟨.builtin .append, #[x, y], #[t, t2']⟩, s, gs), some (.e (.one (.own b))), some (.vec e (xs.map f)), some (.e (.one (.own b2))), some (.vec e (ys.map f)), none, e, true, true)) (next : Nx P X ops dr Q r i st log ⟨gs ++ [(x, .e (.one (.own b))), (y, .e (.one (.own b2)))], [(b, .vec e (xs.map f))] ++ [(b2, .vec e (ys.map f))], some s, some (.e (.one (.own s))), (s, .vec e ((xs ++ ys).map f)) :: Ip [b], [s]⟩) : Bk P X ops dr Q (r + 1) i st log :=
 Me (CN (t2 h).1) (t2 (t2 h).2).1 (.own _ _ _) ⟨(t2 (t2 (t2 h).2).2).1, trivial⟩ (t2 (t2 (t2 (t2 h).2).2).2).1 (.own _ _ _) ⟨(t2 (t2 (t2 (t2 (t2 h).2).2).2).2).1, trivial⟩ (t2 (t2 (t2 (t2 (t2 (t2 h).2).2).2).2).2).1 ht ht2 he hby (Nat.le_of_ble_eq_true (t2 (t2 (t2 (t2 (t2 (t2 (t2 (t2 h).2).2).2).2).2).2).2).1) hz (t2 (t2 (t2 (t2 (t2 (t2 (t2 h).2).2).2).2).2).2).1 (by simpa using hlim) (by simp) (t2 (t2 (t2 (t2 (t2 (t2 (t2 (t2 h).2).2).2).2).2).2).2).2 next
theorem MZ {α : Type} {f : α → List T} {xs : List α} {ys : List α} {x y : Operand} {t t2' el el2 s e bytes b : Nat} {z : Value} (ht : sliceB P t el = true) (ht2 : sliceB P t2' el2 = true) (he : Gq P el e = true) (hby : EJ P el bytes = true) (hz : DF P el = some z) (hf : ∀ x, (f x).length = e) (hlim : xs.length + ys.length ≤ Fz) (h : (hd st.env ops i X.n, opd st.env x, st.bx b, opd st.env y, st.bx s, z.cells.size, Nat.ble bytes 4096, [b].all (fun b => !BP b)) = (some (.call ⟨.builtin .append, #[x, y], #[t, t2']⟩, s, gs), some (.e (.one (.own b))), some (.vec e (xs.map f)), some (one (.sl (ys.map f))), none, e, true, true)) (next : Nx P X ops dr Q r i st log ⟨gs ++ [(x, .e (.one (.own b))), (y, one (.sl (ys.map f)))], [(b, .vec e (xs.map f))] ++ [], some s, some (.e (.one (.own s))), (s, .vec e ((xs ++ ys).map f)) :: Ip [b], [s]⟩) : Bk P X ops dr Q (r + 1) i st log :=
 Me (CN (t2 h).1) (t2 (t2 h).2).1 (.own _ _ _) ⟨(t2 (t2 (t2 h).2).2).1, trivial⟩ (t2 (t2 (t2 (t2 h).2).2).2).1 (.sl _ _ (MR hf _)) trivial (t2 (t2 (t2 (t2 (t2 h).2).2).2).2).1 ht ht2 he hby (Nat.le_of_ble_eq_true (t2 (t2 (t2 (t2 (t2 (t2 (t2 h).2).2).2).2).2).2).1) hz (t2 (t2 (t2 (t2 (t2 (t2 h).2).2).2).2).2).1 (by simpa using hlim) (by simp) (t2 (t2 (t2 (t2 (t2 (t2 (t2 h).2).2).2).2).2).2).2 next
end run
end Go.Lift

/- A function that is named where a closure is wanted, in calls that lend. No condition. -/
namespace Go.Lift
open Go.RowKit
variable {P : Program}
def RH (P : Program) : List D → List D → Prop
 | [], [] => True
 | a :: ar, b :: bs => (∀ (w : World) (G : Gh) (v : Value), FV P w G v a → FV P w G v b) ∧ RH P ar bs
 | _, _ => False
theorem RH.get : ∀ {ar bs : List D}, RH P ar bs → ar.length = bs.length ∧ ∀ (j : Nat) (b : D), bs[j]? = some b → ∃ a, ar[j]? = some a ∧ ∀ (w : World) (G : Gh) (v : Value), FV P w G v a → FV P w G v b
 | [], [], _ => ⟨rfl, fun j b h => by simp at h⟩
 | a :: ar, b :: bs, h => by
  obtain ⟨h1, h2⟩ := RH.get h.2
  refine ⟨by simp [h1], fun j c hj => ?_⟩
  cases j with
  | zero => simp at hj; subst hj; exact ⟨a, rfl, h.1⟩
  | succ j => obtain ⟨a', g1, g2⟩ := h2 j c (by simpa using hj); exact ⟨a', by simpa using g1, g2⟩
theorem Bn.weak {f : FuncId} {ds ds' : List D} {lent : List (Bu × Bu)} {rv : List Bu} {res : D} (h : Bn P f ds lent rv res) (hp : RH P ds' ds) : Bn P f ds' lent rv res := by
 intro w G vs h1 h2 h3 h4 hlen hargs
 obtain ⟨g1, g2⟩ := hp.get
 refine h w G vs h1 h2 h3 h4 (by rw [hlen, g1]) fun j d hj => ?_
 obtain ⟨a, e1, e2⟩ := g2 j d hj
 exact e2 w G _ (hargs j a e1)
theorem Kx {f : FuncId} {g : List (Bool × List T) → Option T} (hf : AE P f = true) (hclo : ∀ ar t, g ar = some t → Az P f (ar.map L4) [] (one t)) {w : World} {G : Gh} {v : Value} (h : FV P w G v (.e (.one (.fnc f)))) : FV P w G v (.e (.one (.clo g))) :=
 Pn (S := G.S) hf hclo h
end Go.Lift

/- A place of a part of an own slice, at typed lists. No condition. -/
namespace Go.Lift
open Go.RowKit
variable {P : Program} {X : H3} {ops : Array Oper}
theorem HB {α : Type} {xs : List α} {lo len i : Nat} {x : α} (h : ((xs.drop lo).take len)[i]? = some x) : i < len ∧ xs[lo + i]? = some x := by
 rw [List.getElem?_take] at h
 split at h
 ·rename_i h1; rw [List.getElem?_drop] at h; exact ⟨h1, h⟩
 ·cases h
section run
variable {dr : Bool} {Q : St → Prop} {r i : Nat} {st : St} {log : List (Nat × CL)} {gs : List (Operand × D)}
theorem Js {α : Type} (f : α → List T) (xs : List α) {x y : Operand} {s e b lo len q : Nat} {t el : TypeId} {k : IntKind} {n : Int} (hat : At st.env ops i X.n (.indexAddr t x y) s gs)
  (hx : opd st.env x = some (.e (.one (.view b e lo len)))) (hle : lo + len ≤ xs.length) (hy : opd st.env y = some (vD (.int k n))) (hb : st.bx b = some (.vec e (xs.map f))) (ht : sliceB P t el = true) (hz : Gq P el e = true) (h0 : 0 ≤ n) (hn1 : n.toNat < len) (hq : lo + n.toNat = q)
  (next : Nx P X ops dr Q r i st log ⟨gs ++ [(x, .e (.one (.view b e lo len))), (y, vD (.int k n))], [(b, .vec e (xs.map f))], some s, some (.e (.one (.eptr b e q 0))), [], []⟩) : Bk P X ops dr Q (r + 1) i st log := by
 subst hq
 exact Ol (row := []) hat hx (by simpa using hle) hy hb ht hz h0 hn1 next
end run
end Go.Lift

/- The types of the shallow programs, and how a value of each lies in cells. Written by a program (gen.py). -/
namespace Go.Lift
def Aj (n : Int) : List T := [.val (.int .i64 n)]
def Bs (n : Int) : List T := [.val (.int .u8 n)]
def SP (n : Int) : List T := [.val (.int .u16 n)]
abbrev Co (n : Int) : T := .val (.int .i64 n)
abbrev tB (b : Bool) : T := .val (.bool b)
def eB (b : Bool) : List T := [.val (.bool b)]
def EB {α : Type} (f : α → List T) (xs : List α) : List T := [.sl (xs.map f)]
theorem OW : Pi Aj := ⟨by intro x y h; simpa [Aj] using h⟩
theorem Sb : Pi Bs := ⟨by intro x y h; simpa [Bs] using h⟩
theorem SU : Pi eB := ⟨by intro x y h; simpa [eB] using h⟩
theorem RG {α : Type} {f : α → List T} (h : Pi f) : Pi (EB f) := ⟨by intro x y hx; simp only [EB, List.cons.injEq, T.sl.injEq, and_true] at hx; exact Jl h.inj _ _ hx⟩
structure Gr where
 fKind : Int
 fFrom : Int
 fTo : Int
 fAware : Bool
 fBad : Int
 fLost : Int
def BQ (x : Gr) : List T := [.val (.int .u8 x.fKind), .val (.int .u8 x.fFrom), .val (.int .u8 x.fTo), .val (.bool x.fAware), .val (.int .u16 x.fBad), .val (.int .u16 x.fLost)]
structure Ce where
 fVersions : List Int
 fNow : List Int
 fTarget : List Int
 fLinks : List Gr
def IV (x : Ce) : List T := [.sl (x.fVersions.map Bs), .sl (x.fNow.map Bs), .sl (x.fTarget.map Bs), .sl (x.fLinks.map BQ)]
structure Ae where
 fBase : List Int
 fNext : List Int
 fHeld : List Int
def Af (x : Ae) : List T := [.sl (x.fBase.map Aj), .sl (x.fNext.map Aj), .sl (x.fHeld.map Bs)]
theorem Bc : Pi Af := ⟨by
 rintro ⟨a1, a2, a3⟩ ⟨b1, b2, b3⟩ h
 simp only [Af, List.cons.injEq, T.sl.injEq, and_true] at h
 obtain ⟨h1, h2, h3⟩ := h
 have h1 := Jl OW.inj _ _ h1
 subst h1
 have h2 := Jl OW.inj _ _ h2
 subst h2
 have h3 := Jl Sb.inj _ _ h3
 subst h3
 rfl⟩
structure AG where
 fKind : Int
 fFrom : Int
 fTo : Int
 fAware : Bool
 fOK : List (List Bool)
 fRewrite : List (List Bool)
def Aq (x : AG) : List T := [.val (.int .i64 x.fKind), .val (.int .i64 x.fFrom), .val (.int .i64 x.fTo), .val (.bool x.fAware), .sl (x.fOK.map (EB eB)), .sl (x.fRewrite.map (EB eB))]
structure Ai where
 fVersions : List Int
 fNow : List Int
 fTarget : List Int
 fTables : List AG
structure AP where
 fTable : Int
 fWriter : Int
 fReader : Int
def B8 (x : AP) : List T := [.val (.int .i64 x.fTable), .val (.int .i64 x.fWriter), .val (.int .i64 x.fReader)]
structure Av where
 fKind : Int
 fIndex : Int
 fVersion : Int
def AH (x : Av) : List T := [.val (.int .i64 x.fKind), .val (.int .i64 x.fIndex), .val (.int .i64 x.fVersion)]
theorem KP : Pi AH := ⟨by
 rintro ⟨a1, a2, a3⟩ ⟨b1, b2, b3⟩ h
 simp only [AH, List.cons.injEq, T.val.injEq, Value.int.injEq, and_true, true_and] at h
 obtain ⟨h1, h2, h3⟩ := h
 subst h1
 subst h2
 subst h3
 rfl⟩
end Go.Lift

/- The shallow programs. Written by a program (gen.py) out of the code. -/
namespace Go.Lift
def C6 (_ : Nat) (p0 : List Int) (p1 : Int) : Option Int :=
 AR ((decide (p1 < (p0.length : Int))))
  ((A7 p0 p1).bind fun v2 =>
  some ((IntKind.wrap .i64 v2)))
  (some 0)
def Bo (_ : Nat) (p0 : AG) : Option Bool :=
 Bi (fun (v1 : Bool) =>
  some v1)
 fun j1 =>
 AR ((p0.fKind == 3))
  (j1 true)
  (j1 (p0.fKind == 4))
def BW (N : Nat) (p1 : Int) (p2 : Int) (p3 : Bool) (v1 : (List (List Bool)) × Int) (j4 : ((List Bool)) → Option ((List (List Bool)))) : Nat → ((List Bool) × Int) → Option ((List (List Bool)))
 | 0, _ => none
 | n4 + 1, v4 =>
  AR ((decide (v4.2 < p1)))
   (Bi (fun (v7 : (List Bool)) =>
    BW N p1 p2 p3 v1 j4 n4 (v7, (IntKind.wrap .i64 (v4.2 + 1))))
   fun j7 =>
   AR p3
    (AR ((v1.2 == v4.2))
     ((Ej (v4.1.length + (([true] : List Bool)).length ≤ Fz)).bind fun _ =>
     j7 (v4.1 ++ (([true] : List Bool))))
     ((Ej (0 ≤ (IntKind.wrap .i64 ((IntKind.wrap .i64 (3 * v1.2)) + v4.2)))).bind fun _ =>
     (Ej (v4.1.length + (([((Int.tmod ((DZ .u16 p2 ((IntKind.wrap .i64 ((IntKind.wrap .i64 (3 * v1.2)) + v4.2))))) 2) == 0)] : List Bool)).length ≤ Fz)).bind fun _ =>
     j7 (v4.1 ++ (([((Int.tmod ((DZ .u16 p2 ((IntKind.wrap .i64 ((IntKind.wrap .i64 (3 * v1.2)) + v4.2))))) 2) == 0)] : List Bool)))))
    ((Ej (0 ≤ (IntKind.wrap .i64 ((IntKind.wrap .i64 (3 * v1.2)) + v4.2)))).bind fun _ =>
    (Ej (v4.1.length + (([((Int.tmod ((DZ .u16 p2 ((IntKind.wrap .i64 ((IntKind.wrap .i64 (3 * v1.2)) + v4.2))))) 2) == 0)] : List Bool)).length ≤ Fz)).bind fun _ =>
    j7 (v4.1 ++ (([((Int.tmod ((DZ .u16 p2 ((IntKind.wrap .i64 ((IntKind.wrap .i64 (3 * v1.2)) + v4.2))))) 2) == 0)] : List Bool)))))
   (j4 v4.1)
def BT (N : Nat) (p0 : Int) (p1 : Int) (p2 : Int) (p3 : Bool) (j1 : ((List (List Bool))) → Option ((List (List Bool)))) : Nat → ((List (List Bool)) × Int) → Option ((List (List Bool)))
 | 0, _ => none
 | n1 + 1, v1 =>
  AR ((decide (v1.2 < p0)))
   (BW N p1 p2 p3 v1 (fun (v5 : (List Bool)) =>
    (Ej (v1.1.length + (([v5] : List (List Bool))).length ≤ Fz)).bind fun _ =>
    BT N p0 p1 p2 p3 j1 n1 (v1.1 ++ (([v5] : List (List Bool))), (IntKind.wrap .i64 (v1.2 + 1)))) N (([] : List Bool), 0))
   (j1 v1.1)
def C7 (N : Nat) (p0 : Int) (p1 : Int) (p2 : Int) (p3 : Bool) : Option ((List (List Bool))) :=
 BT N p0 p1 p2 p3 (fun (v2 : (List (List Bool))) =>
  some v2) N (([] : List (List Bool)), 0)
def Cf (N : Nat) (p0 : Ce) (j4 : ((List Int) × (List Int) × (List Int)) → Option (Ai × Bool)) : Nat → ((List Int) × (List Int) × (List Int) × Int) → Option (Ai × Bool)
 | 0, _ => none
 | n4 + 1, v4 =>
  AR ((decide (v4.2.2.2 < (p0.fVersions.length : Int))))
   ((A7 p0.fVersions v4.2.2.2).bind fun v7 =>
   (Ej (v4.1.length + (([(IntKind.wrap .i64 (1 + (IntKind.wrap .i64 ((Int.tmod v7 3)))))] : List Int)).length ≤ Fz)).bind fun _ =>
   (C6 N p0.fNow v4.2.2.2).bind fun v9 =>
   (Ej ((IntKind.wrap .i64 (1 + (IntKind.wrap .i64 ((Int.tmod v7 3))))) ≠ 0)).bind fun _ =>
   (Ej (v4.2.1.length + (([(Int.tmod v9 ((IntKind.wrap .i64 (1 + (IntKind.wrap .i64 ((Int.tmod v7 3)))))))] : List Int)).length ≤ Fz)).bind fun _ =>
   (C6 N p0.fTarget v4.2.2.2).bind fun v12 =>
   (Ej ((IntKind.wrap .i64 (1 + (IntKind.wrap .i64 ((Int.tmod v7 3))))) ≠ 0)).bind fun _ =>
   (Ej (v4.2.2.1.length + (([(Int.tmod v12 ((IntKind.wrap .i64 (1 + (IntKind.wrap .i64 ((Int.tmod v7 3)))))))] : List Int)).length ≤ Fz)).bind fun _ =>
   Cf N p0 j4 n4 (v4.1 ++ (([(IntKind.wrap .i64 (1 + (IntKind.wrap .i64 ((Int.tmod v7 3)))))] : List Int)), v4.2.1 ++ (([(Int.tmod v9 ((IntKind.wrap .i64 (1 + (IntKind.wrap .i64 ((Int.tmod v7 3)))))))] : List Int)), v4.2.2.1 ++ (([(Int.tmod v12 ((IntKind.wrap .i64 (1 + (IntKind.wrap .i64 ((Int.tmod v7 3)))))))] : List Int)), (IntKind.wrap .i64 (v4.2.2.2 + 1))))
   (j4 (v4.1, v4.2.1, v4.2.2.1))
def Bg (N : Nat) (p0 : Ce) (v5 : (List Int) × (List Int) × (List Int)) (j15 : ((List AG)) → Option (Ai × Bool)) : Nat → ((List AG) × Int) → Option (Ai × Bool)
 | 0, _ => none
 | n15 + 1, v15 =>
  Bi (fun (v17 : Bool) =>
   AR v17
    ((A7 p0.fLinks v15.2).bind fun v20 =>
    (Ej ((v5.1.length : Int) ≠ 0)).bind fun _ =>
    (Ej ((v5.1.length : Int) ≠ 0)).bind fun _ =>
    Bi (fun (v23 : Bool) =>
     (A7 v5.1 ((Int.tmod ((IntKind.wrap .i64 v20.fFrom)) ((v5.1.length : Int))))).bind fun v26 =>
     (A7 v5.1 ((Int.tmod ((IntKind.wrap .i64 v20.fTo)) ((v5.1.length : Int))))).bind fun v27 =>
     (C7 N v26 v27 v20.fBad false).bind fun v28 =>
     Bi (fun (v29 : (List (List Bool))) =>
      (Ej (v15.1.length + (([(AG.mk ((IntKind.wrap .i64 (1 + (IntKind.wrap .i64 ((Int.tmod v20.fKind 4)))))) ((Int.tmod ((IntKind.wrap .i64 v20.fFrom)) ((v5.1.length : Int)))) ((Int.tmod ((IntKind.wrap .i64 v20.fTo)) ((v5.1.length : Int)))) v23 v28 v29)] : List AG)).length ≤ Fz)).bind fun _ =>
      Bg N p0 v5 j15 n15 (v15.1 ++ (([(AG.mk ((IntKind.wrap .i64 (1 + (IntKind.wrap .i64 ((Int.tmod v20.fKind 4)))))) ((Int.tmod ((IntKind.wrap .i64 v20.fFrom)) ((v5.1.length : Int)))) ((Int.tmod ((IntKind.wrap .i64 v20.fTo)) ((v5.1.length : Int)))) v23 v28 v29)] : List AG)), (IntKind.wrap .i64 (v15.2 + 1))))
     fun j29 =>
     AR (((IntKind.wrap .i64 (1 + (IntKind.wrap .i64 ((Int.tmod v20.fKind 4))))) == 4))
      ((A7 v5.1 ((Int.tmod ((IntKind.wrap .i64 v20.fFrom)) ((v5.1.length : Int))))).bind fun v31 =>
      (A7 v5.1 ((Int.tmod ((IntKind.wrap .i64 v20.fFrom)) ((v5.1.length : Int))))).bind fun v32 =>
      (C7 N v31 v32 v20.fLost true).bind fun v33 =>
      j29 v33)
      (j29 ([] : List (List Bool))))
    fun j23 =>
    AR v20.fAware
     ((Bo N ((AG.mk ((IntKind.wrap .i64 (1 + (IntKind.wrap .i64 ((Int.tmod v20.fKind 4)))))) ((Int.tmod ((IntKind.wrap .i64 v20.fFrom)) ((v5.1.length : Int)))) ((Int.tmod ((IntKind.wrap .i64 v20.fTo)) ((v5.1.length : Int)))) false (([] : List (List Bool))) (([] : List (List Bool)))))).bind fun v25 =>
     j23 (!v25))
     (j23 false))
    (j15 v15.1))
  fun j17 =>
  AR ((decide (v15.2 < (p0.fLinks.length : Int))))
   (j17 (decide (0 < (v5.1.length : Int))))
   (j17 false)
def DT (N : Nat) (p0 : Ce) : Option (Ai × Bool) :=
 Bi (fun (v1 : Bool) =>
  AR v1
   (some ((Ai.mk (([] : List Int)) (([] : List Int)) (([] : List Int)) (([] : List AG))), false))
   (Cf N p0 (fun (v5 : (List Int) × (List Int) × (List Int)) =>
    Bg N p0 v5 (fun (v16 : (List AG)) =>
     some ((Ai.mk v5.1 v5.2.1 v5.2.2 v16), true)) N (([] : List AG), 0)) N (([] : List Int), ([] : List Int), ([] : List Int), 0)))
 fun j1 =>
 AR ((decide (3 < (p0.fVersions.length : Int))))
  (j1 true)
  (j1 (decide (4 < (p0.fLinks.length : Int))))
def Ch (_ : Nat) (p0 : Bool) : Option Ai :=
 some ((Ai.mk (([2] : List Int)) (([0] : List Int)) (([1] : List Int)) (([(AG.mk 1 0 0 false (([([true, true] : List Bool), ([p0, true] : List Bool)] : List (List Bool))) (([] : List (List Bool))))] : List AG))))
def C8 (_ : Nat) (p0 : Int) (p1 : Int) : Option Bool :=
 Bi (fun (v1 : Bool) =>
  some v1)
 fun j1 =>
 AR ((decide (0 ≤ p0)))
  (j1 (decide (p0 < p1)))
  (j1 false)
def E8 (_ : Nat) (p0 : Int) (p1 : Bool) : Option Bool :=
 Bi (fun (v1 : Bool) =>
  some v1)
 fun j1 =>
 AR ((p0 == 1))
  (j1 true)
  (AR ((p0 == 2))
   (j1 true)
   (AR ((p0 == 3))
    (j1 (!p1))
    (AR ((p0 == 4))
     (j1 (!p1))
     (j1 false))))
def C1 (_ : Nat) (p0 : List Bool) (p1 : Int) : Option Bool :=
 some (((p0.length : Int) != p1))
def A5 (N : Nat) (p0 : List (List Bool)) (p1 : (List Bool) → Option Bool) (j1 : Unit → Option Int) : Nat → Int → Option Int
 | 0, _ => none
 | n1 + 1, v1 =>
  AR ((decide (v1 < (p0.length : Int))))
   ((A7 p0 v1).bind fun v4 =>
   (p1 v4).bind fun v5 =>
   AR v5
    (some v1)
    (A5 N p0 p1 j1 n1 (IntKind.wrap .i64 (v1 + 1))))
   (j1 ())
def CK (N : Nat) (p0 : List (List Bool)) (p1 : (List Bool) → Option Bool) : Option Int :=
 A5 N p0 p1 (fun (_ : Unit) =>
  some ((-1))) N 0
def Cs (N : Nat) (p0 : List (List Bool)) (p1 : (List Bool) → Option Bool) : Option Bool :=
 (CK N p0 p1).bind fun v1 =>
 some ((decide (0 ≤ v1)))
def DQ (N : Nat) (p0 : List (List Bool)) (p1 : Int) (p2 : Int) : Option Bool :=
 Bi (fun (v1 : Bool) =>
  some v1)
 fun j1 =>
 AR (((p0.length : Int) == p1))
  ((Cs N p0 ((fun (x : List Bool) => C1 N x p2))).bind fun v3 =>
  j1 (!v3))
  (j1 false)
def Cx (N : Nat) (p1 : AG) (j19 : Unit → Option Int) : Nat → Int → Option Int
 | 0, _ => none
 | n19 + 1, v19 =>
  AR ((decide (v19 < (p1.fRewrite.length : Int))))
   ((A7 p1.fRewrite v19).bind fun v22 =>
   (A7 v22 v19).bind fun v23 =>
   AR ((!v23))
    (some 1)
    (Cx N p1 j19 n19 (IntKind.wrap .i64 (v19 + 1))))
   (j19 ())
def EI (N : Nat) (p0 : Ai) (p1 : AG) : Option Int :=
 (E8 N p1.fKind p1.fAware).bind fun v1 =>
 AR ((!v1))
  (some 1)
  (Bi (fun (v3 : Bool) =>
   AR v3
    (some 4)
    ((A7 p0.fVersions p1.fFrom).bind fun v8 =>
    Bi (fun (v9 : Bool) =>
     AR v9
      (some 6)
      (Cx N p1 (fun (_ : Unit) =>
       some 0) N 0))
    fun j9 =>
    (A7 p0.fVersions p1.fTo).bind fun v10 =>
    (DQ N p1.fOK v8 v10).bind fun v11 =>
    AR ((!v11))
     (j9 true)
     (AR ((p1.fKind == 4))
      ((DQ N p1.fRewrite v8 v8).bind fun v14 =>
      AR ((!v14))
       (j9 true)
       (AR ((!((p1.fKind == 4))))
        (j9 (decide (0 < (p1.fRewrite.length : Int))))
        (j9 false)))
      (AR ((!((p1.fKind == 4))))
       (j9 (decide (0 < (p1.fRewrite.length : Int))))
       (j9 false)))))
  fun j3 =>
  (C8 N p1.fFrom ((p0.fVersions.length : Int))).bind fun v4 =>
  AR ((!v4))
   (j3 true)
   ((C8 N p1.fTo ((p0.fVersions.length : Int))).bind fun v6 =>
   j3 (!v6)))
def BA (N : Nat) (p0 : Ai) (j7 : Unit → Option Int) : Nat → Int → Option Int
 | 0, _ => none
 | n7 + 1, v7 =>
  AR ((decide (v7 < (p0.fVersions.length : Int))))
   ((A7 p0.fVersions v7).bind fun v10 =>
   Bi (fun (v11 : Bool) =>
    AR v11
     (some 7)
     (BA N p0 j7 n7 (IntKind.wrap .i64 (v7 + 1))))
   fun j11 =>
   AR ((decide (v10 < 1)))
    (j11 true)
    (AR ((decide (6 < v10)))
     (j11 true)
     ((A7 p0.fNow v7).bind fun v14 =>
     (C8 N v14 v10).bind fun v15 =>
     AR ((!v15))
      (j11 true)
      ((A7 p0.fTarget v7).bind fun v17 =>
      (C8 N v17 v10).bind fun v18 =>
      j11 (!v18)))))
   (j7 ())
def Bq (N : Nat) (p0 : Ai) (j20 : Unit → Option Int) : Nat → Int → Option Int
 | 0, _ => none
 | n20 + 1, v20 =>
  AR ((decide (v20 < (p0.fTables.length : Int))))
   ((A7 p0.fTables v20).bind fun v23 =>
   (EI N p0 v23).bind fun v24 =>
   AR ((v24 != 0))
    (some v24)
    (Bq N p0 j20 n20 (IntKind.wrap .i64 (v20 + 1))))
   (j20 ())
def Cr (N : Nat) (p0 : Ai) : Option Int :=
 Bi (fun (v1 : Bool) =>
  AR v1
   (some 3)
   (Bi (fun (v4 : Bool) =>
    AR v4
     (some 6)
     (BA N p0 (fun (_ : Unit) =>
      Bq N p0 (fun (_ : Unit) =>
       some 0) N 0) N 0))
   fun j4 =>
   AR (((p0.fNow.length : Int) != (p0.fVersions.length : Int)))
    (j4 true)
    (j4 ((p0.fTarget.length : Int) != (p0.fVersions.length : Int)))))
 fun j1 =>
 AR ((decide (6 < (p0.fVersions.length : Int))))
  (j1 true)
  (j1 (decide (12 < (p0.fTables.length : Int))))
def Cc (_ : Nat) (p0 : List Int) : Option ((List Int)) :=
 (Ej ((([] : List Int)).length + p0.length ≤ Fz)).bind fun _ =>
 some ((([] : List Int)) ++ p0)
def Fr (_ : Nat) (p0 : Int) (p1 : Int) : Option (Int × Int) :=
 some ((IntKind.wrap .u32 ((DZ .u64 ((IntKind.wrap .u64 ((IntKind.wrap .u64 p0) * (IntKind.wrap .u64 p1)))) 32))), (IntKind.wrap .u32 ((IntKind.wrap .u64 ((IntKind.wrap .u64 p0) * (IntKind.wrap .u64 p1))))))
def Fq (_ : Nat) (p0 : Int) (p1 : Int) : Option (Int × Int) :=
 some ((IntKind.wrap .u64 ((IntKind.wrap .u64 ((IntKind.wrap .u64 ((DZ .u64 p0 32) * (DZ .u64 p1 32))) + (DZ .u64 ((IntKind.wrap .u64 ((IntKind.wrap .u64 ((DZ .u64 p0 32) * (Gi .u64 p1 4294967295))) + (DZ .u64 ((IntKind.wrap .u64 ((Gi .u64 p0 4294967295) * (Gi .u64 p1 4294967295)))) 32)))) 32))) + (DZ .u64 ((IntKind.wrap .u64 ((Gi .u64 ((IntKind.wrap .u64 ((IntKind.wrap .u64 ((DZ .u64 p0 32) * (Gi .u64 p1 4294967295))) + (DZ .u64 ((IntKind.wrap .u64 ((Gi .u64 p0 4294967295) * (Gi .u64 p1 4294967295)))) 32)))) 4294967295) + (IntKind.wrap .u64 ((Gi .u64 p0 4294967295) * (DZ .u64 p1 32)))))) 32))), (IntKind.wrap .u64 (p0 * p1)))
def F3 (N : Nat) (p0 : Int) (p1 : Int) : Option (Int × Int) :=
 AR false
  ((Fr N ((IntKind.wrap .u32 p0)) ((IntKind.wrap .u32 p1))).bind fun v2 =>
  some ((IntKind.wrap .u64 v2.1), (IntKind.wrap .u64 v2.2)))
  ((Fq N p0 p1).bind fun v3 =>
  some (v3.1, v3.2))
def CV (N : Nat) (j9 : ((List Int)) → Option ((List Int))) : Nat → ((List Int) × Int) → Option ((List Int))
 | 0, _ => none
 | n9 + 1, v9 =>
  AR ((decide (v9.2 < (v9.1.length : Int))))
   ((Ej ((0 : Int) ≤ v9.2 ∧ (v9.2).toNat ≤ v9.1.length ∧ v9.1.length ≤ v9.1.length)).bind fun _ =>
   (Ej ((0 : Int) ≤ v9.2 ∧ 0 ≤ (v9.2).toNat ∧ (v9.2).toNat ≤ v9.1.length)).bind fun _ =>
   CV N j9 n9 (Hz v9.1 ((v9.2).toNat) ((((v9.1.drop 0).take ((v9.2).toNat))).take (Nat.min (((v9.1.drop 0).take ((v9.2).toNat))).length ((v9.1.length - (v9.2).toNat)))), (IntKind.wrap .i64 (v9.2 + (((Nat.min (((v9.1.drop 0).take ((v9.2).toNat))).length ((v9.1.length - (v9.2).toNat))) : Nat) : Int)))))
   (j9 v9.1)
def D4 (N : Nat) (p0 : List Int) (p1 : Int) : Option ((List Int)) :=
 Bi (fun (_ : Unit) =>
  (F3 N ((IntKind.wrap .u64 ((p0.length : Int)))) ((IntKind.wrap .u64 p1))).bind fun v3 =>
  Bi (fun (_ : Unit) =>
   (Ej ((0 : Int) ≤ (IntKind.wrap .i64 v3.2) ∧ (IntKind.wrap .i64 v3.2) ≤ (IntKind.wrap .i64 v3.2) ∧ (IntKind.wrap .i64 v3.2) ≤ (Fz : Int))).bind fun _ =>
   CV N (fun (v10 : (List Int)) =>
    some v10) N (Hz (List.replicate ((IntKind.wrap .i64 v3.2)).toNat ((0 : Int))) 0 (p0.take (Nat.min p0.length ((List.replicate ((IntKind.wrap .i64 v3.2)).toNat ((0 : Int))).length))), (((Nat.min p0.length ((List.replicate ((IntKind.wrap .i64 v3.2)).toNat ((0 : Int))).length)) : Nat) : Int)))
  fun j4 =>
  Bi (fun (v5 : Bool) =>
   AR v5
    (none)
    (j4 ()))
  fun j5 =>
  AR ((decide (0 < v3.1)))
   (j5 true)
   (j5 (decide (9223372036854775807 < v3.2))))
 fun j1 =>
 AR ((decide (p1 < 0)))
  (none)
  (j1 ())
def D5 (_ : Nat) (p0 : AG) : Option Bool :=
 Bi (fun (v1 : Bool) =>
  some v1)
 fun j1 =>
 AR ((p0.fKind == 3))
  (j1 true)
  (j1 (p0.fKind == 4))
def Fc (N : Nat) (p0 : Ai) (j6 : ((List Int)) → Option (Ae × Int)) : Nat → ((List Int) × Int) → Option (Ae × Int)
 | 0, _ => none
 | n6 + 1, v6 =>
  AR ((decide (v6.2 < (p0.fTables.length : Int))))
   (Bi (fun (v9 : (List Int)) =>
    Fc N p0 j6 n6 (v9, (IntKind.wrap .i64 (v6.2 + 1))))
   fun j9 =>
   (A7 p0.fTables v6.2).bind fun v10 =>
   (D5 N v10).bind fun v11 =>
   AR v11
    ((A7 p0.fNow v10.fFrom).bind fun v13 =>
    (Ej (0 ≤ v13)).bind fun _ =>
    (A7 v6.1 v6.2).bind fun _ =>
    j9 (v6.1.set ((v6.2).toNat) ((Cn .u8 1 v13))))
    (j9 v6.1))
   (j6 v6.1)
def GF (N : Nat) (p0 : Ai) : Option (Ae × Int) :=
 (Cr N p0).bind fun v1 =>
 AR ((v1 != 0))
  (some ((Ae.mk (([] : List Int)) (([] : List Int)) (([] : List Int))), v1))
  ((Cc N p0.fNow).bind fun v3 =>
  (D4 N (([(-1)] : List Int)) ((p0.fNow.length : Int))).bind fun v4 =>
  (Ej ((0 : Int) ≤ (p0.fTables.length : Int) ∧ (p0.fTables.length : Int) ≤ (p0.fTables.length : Int) ∧ (p0.fTables.length : Int) ≤ (Fz : Int))).bind fun _ =>
  Fc N p0 (fun (v7 : (List Int)) =>
   some ((Ae.mk v3 v4 v7), 0)) N (List.replicate ((p0.fTables.length : Int)).toNat ((0 : Int)), 0))
def DK (_ : Nat) (p0 : Ae) (p1 : Int) : Option Int :=
 (A7 p0.fBase p1).bind fun v1 =>
 (Ej (0 ≤ v1)).bind fun _ =>
 Bi (fun (v3 : Int) =>
  some v3)
 fun j3 =>
 (A7 p0.fNext p1).bind fun v4 =>
 AR ((decide (0 ≤ v4)))
  ((A7 p0.fNext p1).bind fun v6 =>
  (Ej (0 ≤ v6)).bind fun _ =>
  j3 (IT .u8 ((Cn .u8 1 v1)) ((Cn .u8 1 v6))))
  (j3 (Cn .u8 1 v1))
def C9 (N : Nat) (p0 : Ai) (p1 : Ae) (j7 : Unit → Option Int) : Nat → Int → Option Int
 | 0, _ => none
 | n7 + 1, v7 =>
  AR ((decide (v7 < (p0.fVersions.length : Int))))
   ((A7 p0.fVersions v7).bind fun v10 =>
   Bi (fun (v11 : Bool) =>
    AR v11
     (some 7)
     ((A7 p1.fBase v7).bind fun v20 =>
     (A7 p1.fNext v7).bind fun v21 =>
     AR ((v20 == v21))
      (some 1)
      (C9 N p0 p1 j7 n7 (IntKind.wrap .i64 (v7 + 1)))))
   fun j11 =>
   (A7 p1.fBase v7).bind fun v12 =>
   AR ((decide (v12 < 0)))
    (j11 true)
    ((A7 p1.fBase v7).bind fun v14 =>
    AR ((decide (v10 ≤ v14)))
     (j11 true)
     ((A7 p1.fNext v7).bind fun v16 =>
     AR ((decide (v16 < (-1))))
      (j11 true)
      ((A7 p1.fNext v7).bind fun v18 =>
      j11 (decide (v10 ≤ v18))))))
   (j7 ())
def CT (N : Nat) (p0 : Ai) (p1 : Ae) (j23 : Unit → Option Int) : Nat → Int → Option Int
 | 0, _ => none
 | n23 + 1, v23 =>
  AR ((decide (v23 < (p0.fTables.length : Int))))
   ((A7 p0.fTables v23).bind fun v26 =>
   Bi (fun (v27 : Int × Int) =>
    Bi (fun (v33 : Bool) =>
     AR v33
      (some 1)
      (CT N p0 p1 j23 n23 (IntKind.wrap .i64 (v23 + 1))))
    fun j33 =>
    (A7 p1.fHeld v23).bind fun v34 =>
    AR (((C3 .u8 v27.1 v34) != 0))
     (j33 true)
     ((A7 p1.fHeld v23).bind fun v36 =>
     j33 ((C3 .u8 v36 v27.2) != 0)))
   fun j27 =>
   (D5 N v26).bind fun v28 =>
   AR v28
    ((DK N p1 v26.fFrom).bind fun v30 =>
    (A7 p0.fVersions v26.fFrom).bind fun v31 =>
    (Ej (0 ≤ v31)).bind fun _ =>
    j27 (v30, (IntKind.wrap .u8 ((Cn .u8 1 v31) - 1))))
    (j27 (0, 0)))
   (j23 ())
def DC (N : Nat) (p0 : Ai) (p1 : Ae) : Option Int :=
 (Cr N p0).bind fun v1 =>
 AR ((v1 != 0))
  (some v1)
  (Bi (fun (v3 : Bool) =>
   AR v3
    (some 6)
    (C9 N p0 p1 (fun (_ : Unit) =>
     CT N p0 p1 (fun (_ : Unit) =>
      some 0) N 0) N 0))
  fun j3 =>
  AR (((p1.fBase.length : Int) != (p0.fVersions.length : Int)))
   (j3 true)
   (AR (((p1.fNext.length : Int) != (p0.fVersions.length : Int)))
    (j3 true)
    (j3 ((p1.fHeld.length : Int) != (p0.fTables.length : Int)))))
def Cw (_ : Nat) (p0 : List Int) : Option ((List Int)) :=
 (Ej ((([] : List Int)).length + p0.length ≤ Fz)).bind fun _ =>
 some ((([] : List Int)) ++ p0)
def EY (N : Nat) (p1 : Ae) (j3 : ((List Int)) → Option ((List Ae) × Int)) : Nat → ((List Int) × Int) → Option ((List Ae) × Int)
 | 0, _ => none
 | n3 + 1, v3 =>
  AR ((decide (v3.2 < (p1.fNext.length : Int))))
   (Bi (fun (v6 : (List Int)) =>
    EY N p1 j3 n3 (v6, (IntKind.wrap .i64 (v3.2 + 1))))
   fun j6 =>
   (A7 p1.fNext v3.2).bind fun v7 =>
   AR ((decide (0 ≤ v7)))
    ((Ej (v3.1.length + (([v3.2] : List Int)).length ≤ Fz)).bind fun _ =>
    j6 (v3.1 ++ (([v3.2] : List Int))))
    (j6 v3.1))
   (j3 v3.1)
def EC (N : Nat) (v4 : (List Int)) (v11 : (List Ae) × Int) (j17 : ((List Int)) → Option ((List Ae) × Int)) : Nat → ((List Int) × Int) → Option ((List Ae) × Int)
 | 0, _ => none
 | n17 + 1, v17 =>
  AR ((decide (v17.2 < (v4.length : Int))))
   (Bi (fun (v20 : (List Int)) =>
    EC N v4 v11 j17 n17 (v20, (IntKind.wrap .i64 (v17.2 + 1))))
   fun j20 =>
   (A7 v4 v17.2).bind fun v21 =>
   (Ej (0 ≤ v17.2)).bind fun _ =>
   AR (((Gi .i64 ((DZ .i64 v11.2 v17.2)) 1) == 1))
    ((A7 v17.1 v21).bind fun _ =>
    j20 (v17.1.set ((v21).toNat) ((-1))))
    (j20 v17.1))
   (j17 v17.1)
def Ez (N : Nat) (p1 : Ae) (v4 : (List Int)) (j11 : ((List Ae)) → Option ((List Ae) × Int)) : Nat → ((List Ae) × Int) → Option ((List Ae) × Int)
 | 0, _ => none
 | n11 + 1, v11 =>
  AR ((decide (v11.2 < (Cn .i64 1 ((v4.length : Int))))))
   ((Cc N p1.fBase).bind fun v14 =>
   (Cc N p1.fNext).bind fun v15 =>
   (Cw N p1.fHeld).bind fun v16 =>
   EC N v4 v11 (fun (v18 : (List Int)) =>
    (Ej (v11.1.length + (([(Ae.mk v14 v18 v16)] : List Ae)).length ≤ Fz)).bind fun _ =>
    Ez N p1 v4 j11 n11 (v11.1 ++ (([(Ae.mk v14 v18 v16)] : List Ae)), (IntKind.wrap .i64 (v11.2 + 1)))) N (v15, 0))
   (j11 v11.1)
def Ge (N : Nat) (p0 : Ai) (p1 : Ae) : Option ((List Ae) × Int) :=
 (DC N p0 p1).bind fun v1 =>
 AR ((v1 != 0))
  (some (([] : List Ae), v1))
  (EY N p1 (fun (v4 : (List Int)) =>
   (Ej (0 ≤ (v4.length : Int))).bind fun _ =>
   Ez N p1 v4 (fun (v12 : (List Ae)) =>
    some (v12, 0)) N (([] : List Ae), 0)) N (([] : List Int), 0))
def DU (N : Nat) (v1 : (List AP) × Int) (v4 : AG) (v6 : Int) (v11 : (List AP) × Int) (v17 : List Bool) (j18 : ((List AP) × Bool) → Option ((List AP))) : Nat → ((List AP) × Bool × Int) → Option ((List AP))
 | 0, _ => none
 | n18 + 1, v18 =>
  AR ((decide (v18.2.2 < (v17.length : Int))))
   (Bi (fun (v21 : (List AP) × Bool) =>
    DU N v1 v4 v6 v11 v17 j18 n18 (v21.1, v21.2, (IntKind.wrap .i64 (v18.2.2 + 1))))
   fun j21 =>
   (A7 v17 v18.2.2).bind fun v22 =>
   (Ej (0 ≤ v18.2.2)).bind fun _ =>
   AR (((Gi .u8 ((DZ .u8 v6 v18.2.2)) 1) == 0))
    (j21 (v18.1, v18.2.1))
    (Bi (fun (v25 : Bool) =>
     Bi (fun (v27 : Bool) =>
      AR v27
       ((Ej (v18.1.length + (([(AP.mk v1.2 v11.2 v18.2.2)] : List AP)).length ≤ Fz)).bind fun _ =>
       j21 (v18.1 ++ (([(AP.mk v1.2 v11.2 v18.2.2)] : List AP)), v25))
       (j21 (v18.1, v25)))
     fun j27 =>
     AR ((!v22))
      (j27 (!v4.fAware))
      (j27 false))
    fun j25 =>
    AR v18.2.1
     (j25 true)
     (j25 v22)))
   (j18 (v18.1, v18.2.1))
def DV (N : Nat) (v1 : (List AP) × Int) (v4 : AG) (v6 : Int) (v7 : Int) (j11 : ((List AP)) → Option ((List AP))) : Nat → ((List AP) × Int) → Option ((List AP))
 | 0, _ => none
 | n11 + 1, v11 =>
  AR ((decide (v11.2 < (v4.fOK.length : Int))))
   (Bi (fun (v14 : (List AP)) =>
    DV N v1 v4 v6 v7 j11 n11 (v14, (IntKind.wrap .i64 (v11.2 + 1))))
   fun j14 =>
   (Ej (0 ≤ v11.2)).bind fun _ =>
   AR (((Gi .u8 ((DZ .u8 v7 v11.2)) 1) == 0))
    (j14 v11.1)
    ((A7 v4.fOK v11.2).bind fun v17 =>
    DU N v1 v4 v6 v11 v17 (fun (v19 : (List AP) × Bool) =>
     Bi (fun (v31 : Bool) =>
      AR v31
       ((Ej (v19.1.length + (([(AP.mk v1.2 v11.2 ((-1)))] : List AP)).length ≤ Fz)).bind fun _ =>
       j14 (v19.1 ++ (([(AP.mk v1.2 v11.2 ((-1)))] : List AP))))
       (j14 v19.1))
     fun j31 =>
     AR v4.fAware
      (j31 (!v19.2))
      (j31 false)) N (v11.1, false, 0)))
   (j11 v11.1)
def Ec (N : Nat) (p0 : Ai) (p1 : Ae) (j1 : ((List AP)) → Option ((List AP))) : Nat → ((List AP) × Int) → Option ((List AP))
 | 0, _ => none
 | n1 + 1, v1 =>
  AR ((decide (v1.2 < (p0.fTables.length : Int))))
   ((A7 p0.fTables v1.2).bind fun v4 =>
   (DK N p1 v4.fFrom).bind fun v5 =>
   (DK N p1 v4.fTo).bind fun v6 =>
   Bi (fun (v7 : Int) =>
    DV N v1 v4 v6 v7 (fun (v12 : (List AP)) =>
     Ec N p0 p1 j1 n1 (v12, (IntKind.wrap .i64 (v1.2 + 1)))) N (v1.1, 0))
   fun j7 =>
   (D5 N v4).bind fun v8 =>
   AR v8
    ((A7 p1.fHeld v1.2).bind fun v10 =>
    j7 v10)
    (j7 v5))
   (j1 v1.1)
def F4 (N : Nat) (p0 : Ai) (p1 : Ae) : Option ((List AP)) :=
 Ec N p0 p1 (fun (v2 : (List AP)) =>
  some v2) N (([] : List AP), 0)
def Fd (N : Nat) (p0 : Ai) (v1 : (List Ae) × Int) (j3 : Unit → Option (Ae × AP × Int)) : Nat → Int → Option (Ae × AP × Int)
 | 0, _ => none
 | n3 + 1, v3 =>
  AR ((decide (v3 < (v1.1.length : Int))))
   ((A7 v1.1 v3).bind fun v6 =>
   (F4 N p0 v6).bind fun v7 =>
   AR ((decide (0 < (v7.length : Int))))
    ((A7 v7 0).bind fun v9 =>
    some (v6, v9, 0))
    (Fd N p0 v1 j3 n3 (IntKind.wrap .i64 (v3 + 1))))
   (j3 ())
def HZ (N : Nat) (p0 : Ai) (p1 : Ae) : Option (Ae × AP × Int) :=
 (Ge N p0 p1).bind fun v1 =>
 AR ((v1.2 != 0))
  (some ((Ae.mk (([] : List Int)) (([] : List Int)) (([] : List Int))), (AP.mk 0 0 0), v1.2))
  (Fd N p0 v1 (fun (_ : Unit) =>
   some ((Ae.mk (([] : List Int)) (([] : List Int)) (([] : List Int))), (AP.mk 0 0 0), 15)) N 0)
def E6 (N : Nat) (p0 : Ai) (p1 : Ae) : Option (Bool × Int) :=
 (HZ N p0 p1).bind fun v1 =>
 AR ((v1.2.2 == 0))
  (some (false, 0))
  (AR ((v1.2.2 == 15))
   (some (true, 0))
   (some (false, v1.2.2)))
def FK (N : Nat) (p0 : Ai) : Option (Ae × Bool × Int) :=
 (GF N p0).bind fun v1 =>
 AR ((v1.2 != 0))
  (some ((Ae.mk (([] : List Int)) (([] : List Int)) (([] : List Int))), false, v1.2))
  ((E6 N p0 v1.1).bind fun v3 =>
  some (v1.1, v3.1, v3.2))
def Fg (N : Nat) (p0 : Ae) (j1 : ((List Int)) → Option ByteArray) : Nat → ((List Int) × Int) → Option ByteArray
 | 0, _ => none
 | n1 + 1, v1 =>
  AR ((decide (v1.2 < (p0.fBase.length : Int))))
   ((A7 p0.fBase v1.2).bind fun v4 =>
   (A7 p0.fNext v1.2).bind fun v5 =>
   (Ej (v1.1.length + (([(IntKind.wrap .u8 v4), (IntKind.wrap .u8 ((IntKind.wrap .i64 (v5 + 1))))] : List Int)).length ≤ Fz)).bind fun _ =>
   Fg N p0 j1 n1 (v1.1 ++ (([(IntKind.wrap .u8 v4), (IntKind.wrap .u8 ((IntKind.wrap .i64 (v5 + 1))))] : List Int)), (IntKind.wrap .i64 (v1.2 + 1))))
   (j1 v1.1)
def Fi (N : Nat) (p0 : Ae) (j7 : ((List Int)) → Option ByteArray) : Nat → ((List Int) × Int) → Option ByteArray
 | 0, _ => none
 | n7 + 1, v7 =>
  AR ((decide (v7.2 < (p0.fHeld.length : Int))))
   ((A7 p0.fHeld v7.2).bind fun v10 =>
   (Ej (v7.1.length + (([v10] : List Int)).length ≤ Fz)).bind fun _ =>
   Fi N p0 j7 n7 (v7.1 ++ (([v10] : List Int)), (IntKind.wrap .i64 (v7.2 + 1))))
   (j7 v7.1)
def FC (N : Nat) (p0 : Ae) : Option ByteArray :=
 Fg N p0 (fun (v2 : (List Int)) =>
  Fi N p0 (fun (v8 : (List Int)) =>
   some ((GZ v8))) N (v2, 0)) N (([] : List Int), 0)
def FN (N : Nat) (v1 : (List Av) × Int) (v4 : Int) (j5 : ((List Av)) → Option ((List Av))) : Nat → ((List Av) × Int) → Option ((List Av))
 | 0, _ => none
 | n5 + 1, v5 =>
  AR ((decide (v5.2 < v4)))
   ((Ej (v5.1.length + (([(Av.mk 1 v1.2 v5.2)] : List Av)).length ≤ Fz)).bind fun _ =>
   FN N v1 v4 j5 n5 (v5.1 ++ (([(Av.mk 1 v1.2 v5.2)] : List Av)), (IntKind.wrap .i64 (v5.2 + 1))))
   (j5 v5.1)
def FU (N : Nat) (p0 : Ai) (j1 : ((List Av)) → Option ((List Av))) : Nat → ((List Av) × Int) → Option ((List Av))
 | 0, _ => none
 | n1 + 1, v1 =>
  AR ((decide (v1.2 < (p0.fVersions.length : Int))))
   ((A7 p0.fVersions v1.2).bind fun v4 =>
   FN N v1 v4 (fun (v6 : (List Av)) =>
    FU N p0 j1 n1 (v6, (IntKind.wrap .i64 (v1.2 + 1)))) N (v1.1, 0))
   (j1 v1.1)
def FA (N : Nat) (p0 : Ai) (j9 : ((List Av)) → Option ((List Av))) : Nat → ((List Av) × Int) → Option ((List Av))
 | 0, _ => none
 | n9 + 1, v9 =>
  AR ((decide (v9.2 < (p0.fVersions.length : Int))))
   ((Ej (v9.1.length + (([(Av.mk 2 v9.2 0)] : List Av)).length ≤ Fz)).bind fun _ =>
   FA N p0 j9 n9 (v9.1 ++ (([(Av.mk 2 v9.2 0)] : List Av)), (IntKind.wrap .i64 (v9.2 + 1))))
   (j9 v9.1)
def Fe (N : Nat) (p0 : Ai) (j13 : ((List Av)) → Option ((List Av))) : Nat → ((List Av) × Int) → Option ((List Av))
 | 0, _ => none
 | n13 + 1, v13 =>
  AR ((decide (v13.2 < (p0.fTables.length : Int))))
   ((Ej (v13.1.length + (([(Av.mk 3 v13.2 0)] : List Av)).length ≤ Fz)).bind fun _ =>
   Fe N p0 j13 n13 (v13.1 ++ (([(Av.mk 3 v13.2 0)] : List Av)), (IntKind.wrap .i64 (v13.2 + 1))))
   (j13 v13.1)
def Ij (N : Nat) (p0 : Ai) : Option ((List Av)) :=
 FU N p0 (fun (v2 : (List Av)) =>
  FA N p0 (fun (v10 : (List Av)) =>
   Fe N p0 (fun (v14 : (List Av)) =>
    some v14) N (v10, 0)) N (v2, 0)) N (([] : List Av), 0)
def FE (N : Nat) (p0 : Ae) : Option Ae :=
 (Cc N p0.fBase).bind fun v1 =>
 (Cc N p0.fNext).bind fun v2 =>
 (Cw N p0.fHeld).bind fun v3 =>
 some ((Ae.mk v1 v2 v3))
def FI (_ : Nat) (p0 : AG) : Option Bool :=
 Bi (fun (v1 : Bool) =>
  some v1)
 fun j1 =>
 AR ((p0.fKind == 3))
  (j1 true)
  (j1 (p0.fKind == 4))
def EP (N : Nat) (p0 : Ai) (p2 : Av) (j7 : ((List Int)) → Option (Bool × (List Int) × (List Int))) : Nat → ((List Int) × Int) → Option (Bool × (List Int) × (List Int))
 | 0, _ => none
 | n7 + 1, v7 =>
  AR ((decide (v7.2 < (p0.fTables.length : Int))))
   (Bi (fun (v10 : (List Int)) =>
    EP N p0 p2 j7 n7 (v10, (IntKind.wrap .i64 (v7.2 + 1))))
   fun j10 =>
   (A7 p0.fTables v7.2).bind fun v11 =>
   Bi (fun (v12 : Bool) =>
    AR v12
     ((A7 v7.1 v7.2).bind fun v16 =>
     (Ej (0 ≤ p2.fVersion)).bind fun _ =>
     (A7 v7.1 v7.2).bind fun _ =>
     j10 (v7.1.set ((v7.2).toNat) ((IT .u8 v16 ((Cn .u8 1 p2.fVersion))))))
     (j10 v7.1))
   fun j12 =>
   AR ((v11.fFrom == p2.fIndex))
    ((FI N v11).bind fun v14 =>
    j12 v14)
    (j12 false))
   (j7 v7.1)
def Hm (N : Nat) (p0 : Ai) (p1 : Ae) (p2 : Av) : Option (Bool × (List Int) × (List Int)) :=
 Bi (fun (v1 : Bool) =>
  AR v1
   (some (false, p1.fNext, p1.fHeld))
   ((A7 p1.fNext p2.fIndex).bind fun _ =>
   EP N p0 p2 (fun (v8 : (List Int)) =>
    some (true, p1.fNext.set ((p2.fIndex).toNat) p2.fVersion, v8)) N (p1.fHeld, 0)))
 fun j1 =>
 (A7 p1.fNext p2.fIndex).bind fun v2 =>
 AR ((decide (0 ≤ v2)))
  (j1 true)
  ((A7 p1.fBase p2.fIndex).bind fun v4 =>
  j1 (v4 == p2.fVersion))
def Gu (_ : Nat) (p0 : Ae) (p1 : Int) : Option Int :=
 (A7 p0.fBase p1).bind fun v1 =>
 (Ej (0 ≤ v1)).bind fun _ =>
 Bi (fun (v3 : Int) =>
  some v3)
 fun j3 =>
 (A7 p0.fNext p1).bind fun v4 =>
 AR ((decide (0 ≤ v4)))
  ((A7 p0.fNext p1).bind fun v6 =>
  (Ej (0 ≤ v6)).bind fun _ =>
  j3 (IT .u8 ((Cn .u8 1 v1)) ((Cn .u8 1 v6))))
  (j3 (Cn .u8 1 v1))
def DB (_ : Nat) (p0 : Int) : Option Int :=
 (N0 ((⟨⟨(List.append (List.append [8, 0, 1, 0, 2, 0, 1, 0, 3, 0, 1, 0, 2, 0, 1, 0, 4, 0, 1, 0, 2, 0, 1, 0, 3, 0, 1, 0, 2, 0, 1, 0, 5, 0, 1, 0, 2, 0, 1, 0, 3, 0, 1, 0, 2, 0, 1, 0, 4, 0, 1, 0, 2, 0, 1, 0, 3, 0, 1, 0, 2, 0, 1, 0] [6, 0, 1, 0, 2, 0, 1, 0, 3, 0, 1, 0, 2, 0, 1, 0, 4, 0, 1, 0, 2, 0, 1, 0, 3, 0, 1, 0, 2, 0, 1, 0, 5, 0, 1, 0, 2, 0, 1, 0, 3, 0, 1, 0, 2, 0, 1, 0, 4, 0, 1, 0, 2, 0, 1, 0, 3, 0, 1, 0, 2, 0, 1, 0]) (List.append [7, 0, 1, 0, 2, 0, 1, 0, 3, 0, 1, 0, 2, 0, 1, 0, 4, 0, 1, 0, 2, 0, 1, 0, 3, 0, 1, 0, 2, 0, 1, 0, 5, 0, 1, 0, 2, 0, 1, 0, 3, 0, 1, 0, 2, 0, 1, 0, 4, 0, 1, 0, 2, 0, 1, 0, 3, 0, 1, 0, 2, 0, 1, 0] [6, 0, 1, 0, 2, 0, 1, 0, 3, 0, 1, 0, 2, 0, 1, 0, 4, 0, 1, 0, 2, 0, 1, 0, 3, 0, 1, 0, 2, 0, 1, 0, 5, 0, 1, 0, 2, 0, 1, 0, 3, 0, 1, 0, 2, 0, 1, 0, 4, 0, 1, 0, 2, 0, 1, 0, 3, 0, 1, 0, 2, 0, 1, 0]))⟩⟩ : ByteArray)) p0).bind fun v1 =>
 some ((IntKind.wrap .i64 v1))
def DL (N : Nat) (p0 : AG) (p2 : Int) (j1 : Unit → Option Bool) : Nat → Int → Option Bool
 | 0, _ => none
 | n1 + 1, v1 =>
  AR ((v1 != 0))
   ((DB N v1).bind fun v4 =>
   (A7 p0.fRewrite v4).bind fun v5 =>
   (A7 v5 p2).bind fun v6 =>
   AR ((!v6))
    (some false)
    (DL N p0 p2 j1 n1 (Gi .u8 v1 ((IntKind.wrap .u8 (v1 - 1))))))
   (j1 ())
def Fk (N : Nat) (p0 : AG) (p1 : Int) (p2 : Int) : Option Bool :=
 DL N p0 p2 (fun (_ : Unit) =>
  some true) N p1
def Hg (N : Nat) (p0 : Ai) (p1 : Ae) (p2 : Int) : Option (Bool × (List Int)) :=
 (A7 p0.fTables p2).bind fun v1 =>
 (FI N v1).bind fun v2 =>
 AR ((!v2))
  (some (false, p1.fHeld))
  ((Gu N p1 v1.fFrom).bind fun v4 =>
  (A7 p1.fHeld p2).bind fun v5 =>
  Bi (fun (v6 : Bool) =>
   AR v6
    (some (false, p1.fHeld))
    ((A7 p1.fHeld p2).bind fun _ =>
    some (true, p1.fHeld.set ((p2).toNat) v4)))
  fun j6 =>
  (A7 p1.fHeld p2).bind fun v7 =>
  AR ((v7 == v4))
   (j6 true)
   (AR ((v1.fKind == 4))
    ((A7 p1.fBase v1.fFrom).bind fun v10 =>
    (Fk N v1 ((C3 .u8 v5 v4)) v10).bind fun v11 =>
    j6 (!v11))
    (j6 false)))
def Gd (N : Nat) (p0 : Ai) (p1 : Ae) (p2 : Av) : Option (Ae × Bool) :=
 (FE N p1).bind fun v1 =>
 AR ((p2.fKind == 1))
  ((Hm N p0 v1 p2).bind fun v3 =>
  some ((Ae.mk v1.fBase v3.2.1 v3.2.2), v3.1))
  (AR ((p2.fKind == 3))
   ((Hg N p0 v1 p2.fIndex).bind fun v5 =>
   some ((Ae.mk v1.fBase v1.fNext v5.2), v5.1))
   ((A7 v1.fNext p2.fIndex).bind fun v6 =>
   AR ((decide (v6 < 0)))
    (some (v1, false))
    ((A7 v1.fNext p2.fIndex).bind fun _ =>
    Bi (fun (v9 : (List Int)) =>
     some ((Ae.mk v9 (v1.fNext.set ((p2.fIndex).toNat) ((-1))) v1.fHeld), true))
    fun j9 =>
    AR ((p2.fKind == 2))
     ((A7 v1.fBase p2.fIndex).bind fun _ =>
     j9 (v1.fBase.set ((p2.fIndex).toNat) v6))
     (j9 v1.fBase))))
def DY (N : Nat) (p0 : Av) (p1 : List Int) (p2 : List Int) (p3 : List Int) (p4 : List AG) (p5 : List Int) (p6 : List Int) (p7 : List Int) : Option Bool :=
 (Gd N ((Ai.mk p1 p2 p3 p4)) ((Ae.mk p5 p6 p7)) p0).bind fun v1 =>
 some ((!v1.2))
def BL (N : Nat) (p0 : List Av) (p1 : Av → Option Bool) (j1 : Unit → Option Int) : Nat → Int → Option Int
 | 0, _ => none
 | n1 + 1, v1 =>
  AR ((decide (v1 < (p0.length : Int))))
   ((A7 p0 v1).bind fun v4 =>
   (p1 v4).bind fun v5 =>
   AR v5
    (some v1)
    (BL N p0 p1 j1 n1 (IntKind.wrap .i64 (v1 + 1))))
   (j1 ())
def CE (N : Nat) (p0 : List Av) (p1 : Av → Option Bool) : Option Int :=
 BL N p0 p1 (fun (_ : Unit) =>
  some ((-1))) N 0
def BI (N : Nat) (p1 : Av → Option Bool) (j3 : ((List Av) × Int) → Option (Nat × (List Av))) : Nat → ((List Av) × Int × Int) → Option (Nat × (List Av))
 | 0, _ => none
 | n3 + 1, v3 =>
  AR ((decide (v3.2.2 < (v3.1.length : Int))))
   (Bi (fun (v6 : (List Av) × Int) =>
    BI N p1 j3 n3 (v6.1, v6.2, (IntKind.wrap .i64 (v3.2.2 + 1))))
   fun j6 =>
   (A7 v3.1 v3.2.2).bind fun v7 =>
   (p1 v7).bind fun v8 =>
   AR ((!v8))
    ((A7 v3.1 v3.2.1).bind fun _ =>
    j6 (v3.1.set ((v3.2.1).toNat) v7, (IntKind.wrap .i64 (v3.2.1 + 1))))
    (j6 (v3.1, v3.2.1)))
   (j3 (v3.1, v3.2.1))
def CD (N : Nat) (p0 : List Av) (p1 : Av → Option Bool) : Option (Nat × (List Av)) :=
 (CE N p0 p1).bind fun v1 =>
 AR ((v1 == (-1)))
  (some (p0.length, p0))
  (BI N p1 (fun (v4 : (List Av) × Int) =>
   (Ej ((0 : Int) ≤ v4.2 ∧ (v4.2).toNat ≤ v4.1.length ∧ v4.1.length ≤ v4.1.length)).bind fun _ =>
   (Ej ((0 : Int) ≤ v4.2 ∧ 0 ≤ (v4.2).toNat ∧ (v4.2).toNat ≤ (Hz v4.1 ((v4.2).toNat) (List.replicate ((v4.1.length - (v4.2).toNat)) ((Av.mk 0 0 0)))).length)).bind fun _ =>
   some ((v4.2).toNat, Hz v4.1 ((v4.2).toNat) (List.replicate ((v4.1.length - (v4.2).toNat)) ((Av.mk 0 0 0))))) N (p0, v1, (IntKind.wrap .i64 (v1 + 1))))
def Gs (N : Nat) (p0 : Ai) (p1 : Ae) : Option ((List Av) × Int) :=
 (DC N p0 p1).bind fun v1 =>
 AR ((v1 != 0))
  (some (([] : List Av), v1))
  ((Ij N p0).bind fun v3 =>
  (CD N v3 ((fun (x : Av) => DY N x p0.fVersions p0.fNow p0.fTarget p0.fTables p1.fBase p1.fNext p1.fHeld))).bind fun v4 =>
  (Ej (v4.1 ≤ v4.2.length)).bind fun _ =>
  some (v4.2.take v4.1, 0))
def Hi (_ : Nat) (p0 : Av) : Option Bool :=
 Bi (fun (v1 : Bool) =>
  AR v1
   (some false)
   (Bi (fun (v5 : Bool) =>
    some v5)
   fun j5 =>
   AR ((p0.fKind == 1))
    (j5 true)
    (j5 (p0.fVersion == 0))))
 fun j1 =>
 AR ((decide ((PY p0.fIndex p0.fVersion) < 0)))
  (j1 true)
  (AR ((decide (p0.fKind < 1)))
   (j1 true)
   (j1 (decide (4 < p0.fKind))))
def GT (_ : Nat) (p0 : Ai) (p1 : Av) : Option Bool :=
 AR ((p1.fKind == 3))
  (some ((decide (p1.fIndex < (p0.fTables.length : Int)))))
  (Bi (fun (v2 : Bool) =>
   some v2)
  fun j2 =>
  AR ((decide (p1.fIndex < (p0.fVersions.length : Int))))
   (AR ((p1.fKind != 1))
    (j2 true)
    ((A7 p0.fVersions p1.fIndex).bind fun v5 =>
    j2 (decide (p1.fVersion < v5))))
   (j2 false))
def Gf (N : Nat) (p0 : Ai) (p1 : Ae) (p2 : Av) : Option (Ae × Int) :=
 (Hi N p2).bind fun v1 =>
 AR ((!v1))
  (some ((Ae.mk (([] : List Int)) (([] : List Int)) (([] : List Int))), 1))
  ((GT N p0 p2).bind fun v3 =>
  AR ((!v3))
   (some ((Ae.mk (([] : List Int)) (([] : List Int)) (([] : List Int))), 4))
   ((Gd N p0 p1 p2).bind fun v5 =>
   AR ((!v5.2))
    (some ((Ae.mk (([] : List Int)) (([] : List Int)) (([] : List Int))), 11))
    (some (v5.1, 0))))
def Hl (N : Nat) (p0 : Ai) (p1 : Ae) (p2 : Av) : Option (Ae × Int) :=
 (DC N p0 p1).bind fun v1 =>
 AR ((v1 != 0))
  (some ((Ae.mk (([] : List Int)) (([] : List Int)) (([] : List Int))), v1))
  ((Gf N p0 p1 p2).bind fun v3 =>
  some (v3.1, v3.2))
def EQ (N : Nat) (p0 : Ai) (p1 : Ae) (v1 : (List Av) × Int) (j2 : ((List Av) × (List Ae)) → Option ((List Av) × (List Ae))) : Nat → ((List Av) × (List Ae) × Int) → Option ((List Av) × (List Ae))
 | 0, _ => none
 | n2 + 1, v2 =>
  AR ((decide (v2.2.2 < (v1.1.length : Int))))
   (Bi (fun (v5 : (List Av) × (List Ae)) =>
    EQ N p0 p1 v1 j2 n2 (v5.1, v5.2, (IntKind.wrap .i64 (v2.2.2 + 1))))
   fun j5 =>
   (A7 v1.1 v2.2.2).bind fun v6 =>
   (Hl N p0 p1 v6).bind fun v7 =>
   AR ((v7.2 != 0))
    (j5 (v2.1, v2.2.1))
    ((E6 N p0 v7.1).bind fun v9 =>
    AR v9.1
     ((Ej (v2.1.length + (([v6] : List Av)).length ≤ Fz)).bind fun _ =>
     (Ej (v2.2.1.length + (([v7.1] : List Ae)).length ≤ Fz)).bind fun _ =>
     j5 (v2.1 ++ (([v6] : List Av)), v2.2.1 ++ (([v7.1] : List Ae))))
     (j5 (v2.1, v2.2.1))))
   (j2 (v2.1, v2.2.1))
def Gb (N : Nat) (p0 : Ai) (p1 : Ae) : Option ((List Av) × (List Ae)) :=
 (Gs N p0 p1).bind fun v1 =>
 EQ N p0 p1 v1 (fun (v3 : (List Av) × (List Ae)) =>
  some (v3.1, v3.2)) N (([] : List Av), ([] : List Ae), 0)
def Fl (_ : Nat) (p0 : Int) : Option Int :=
 Bi (fun (v1 : Int × Int) =>
  Bi (fun (v3 : Int × Int) =>
   (N0 ((⟨⟨(List.append (List.append [0, 1, 2, 2, 3, 3, 3, 3, 4, 4, 4, 4, 4, 4, 4, 4, 5, 5, 5, 5, 5, 5, 5, 5, 5, 5, 5, 5, 5, 5, 5, 5, 6, 6, 6, 6, 6, 6, 6, 6, 6, 6, 6, 6, 6, 6, 6, 6, 6, 6, 6, 6, 6, 6, 6, 6, 6, 6, 6, 6, 6, 6, 6, 6] [7, 7, 7, 7, 7, 7, 7, 7, 7, 7, 7, 7, 7, 7, 7, 7, 7, 7, 7, 7, 7, 7, 7, 7, 7, 7, 7, 7, 7, 7, 7, 7, 7, 7, 7, 7, 7, 7, 7, 7, 7, 7, 7, 7, 7, 7, 7, 7, 7, 7, 7, 7, 7, 7, 7, 7, 7, 7, 7, 7, 7, 7, 7, 7]) (List.append [8, 8, 8, 8, 8, 8, 8, 8, 8, 8, 8, 8, 8, 8, 8, 8, 8, 8, 8, 8, 8, 8, 8, 8, 8, 8, 8, 8, 8, 8, 8, 8, 8, 8, 8, 8, 8, 8, 8, 8, 8, 8, 8, 8, 8, 8, 8, 8, 8, 8, 8, 8, 8, 8, 8, 8, 8, 8, 8, 8, 8, 8, 8, 8] [8, 8, 8, 8, 8, 8, 8, 8, 8, 8, 8, 8, 8, 8, 8, 8, 8, 8, 8, 8, 8, 8, 8, 8, 8, 8, 8, 8, 8, 8, 8, 8, 8, 8, 8, 8, 8, 8, 8, 8, 8, 8, 8, 8, 8, 8, 8, 8, 8, 8, 8, 8, 8, 8, 8, 8, 8, 8, 8, 8, 8, 8, 8, 8]))⟩⟩ : ByteArray)) ((IntKind.wrap .u8 v3.1))).bind fun v5 =>
   some ((IntKind.wrap .i64 (v3.2 + (IntKind.wrap .i64 v5)))))
  fun j3 =>
  AR ((decide (256 ≤ v1.1)))
   (j3 ((DZ .u32 v1.1 8), (IntKind.wrap .i64 (v1.2 + 8))))
   (j3 (v1.1, v1.2)))
 fun j1 =>
 AR ((decide (65536 ≤ p0)))
  (j1 ((DZ .u32 p0 16), 16))
  (j1 (p0, 0))
def Fp (_ : Nat) (p0 : Int) : Option Int :=
 Bi (fun (v1 : Int × Int) =>
  Bi (fun (v3 : Int × Int) =>
   Bi (fun (v5 : Int × Int) =>
    (N0 ((⟨⟨(List.append (List.append [0, 1, 2, 2, 3, 3, 3, 3, 4, 4, 4, 4, 4, 4, 4, 4, 5, 5, 5, 5, 5, 5, 5, 5, 5, 5, 5, 5, 5, 5, 5, 5, 6, 6, 6, 6, 6, 6, 6, 6, 6, 6, 6, 6, 6, 6, 6, 6, 6, 6, 6, 6, 6, 6, 6, 6, 6, 6, 6, 6, 6, 6, 6, 6] [7, 7, 7, 7, 7, 7, 7, 7, 7, 7, 7, 7, 7, 7, 7, 7, 7, 7, 7, 7, 7, 7, 7, 7, 7, 7, 7, 7, 7, 7, 7, 7, 7, 7, 7, 7, 7, 7, 7, 7, 7, 7, 7, 7, 7, 7, 7, 7, 7, 7, 7, 7, 7, 7, 7, 7, 7, 7, 7, 7, 7, 7, 7, 7]) (List.append [8, 8, 8, 8, 8, 8, 8, 8, 8, 8, 8, 8, 8, 8, 8, 8, 8, 8, 8, 8, 8, 8, 8, 8, 8, 8, 8, 8, 8, 8, 8, 8, 8, 8, 8, 8, 8, 8, 8, 8, 8, 8, 8, 8, 8, 8, 8, 8, 8, 8, 8, 8, 8, 8, 8, 8, 8, 8, 8, 8, 8, 8, 8, 8] [8, 8, 8, 8, 8, 8, 8, 8, 8, 8, 8, 8, 8, 8, 8, 8, 8, 8, 8, 8, 8, 8, 8, 8, 8, 8, 8, 8, 8, 8, 8, 8, 8, 8, 8, 8, 8, 8, 8, 8, 8, 8, 8, 8, 8, 8, 8, 8, 8, 8, 8, 8, 8, 8, 8, 8, 8, 8, 8, 8, 8, 8, 8, 8]))⟩⟩ : ByteArray)) ((IntKind.wrap .u8 v5.1))).bind fun v7 =>
    some ((IntKind.wrap .i64 (v5.2 + (IntKind.wrap .i64 v7)))))
   fun j5 =>
   AR ((decide (256 ≤ v3.1)))
    (j5 ((DZ .u64 v3.1 8), (IntKind.wrap .i64 (v3.2 + 8))))
    (j5 (v3.1, v3.2)))
  fun j3 =>
  AR ((decide (65536 ≤ v1.1)))
   (j3 ((DZ .u64 v1.1 16), (IntKind.wrap .i64 (v1.2 + 16))))
   (j3 (v1.1, v1.2)))
 fun j1 =>
 AR ((decide (4294967296 ≤ p0)))
  (j1 ((DZ .u64 p0 32), 32))
  (j1 (p0, 0))
def EV (N : Nat) (p0 : Int) : Option Int :=
 AR false
  ((Fl N ((IntKind.wrap .u32 p0))).bind fun v2 =>
  some v2)
  ((Fp N p0).bind fun v3 =>
  some v3)
def BG (N : Nat) (p1 : Int) (p3 : (Ae × Ae) → Option Int) (j4 : ((List Ae)) → Option ((List Ae))) : Nat → ((List Ae) × Int) → Option ((List Ae))
 | 0, _ => none
 | n4 + 1, v4 =>
  Bi (fun (v6 : Bool) =>
   AR v6
    ((A7 v4.1 ((IntKind.wrap .i64 (v4.2 - 1)))).bind fun v12 =>
    (A7 v4.1 v4.2).bind fun v13 =>
    (A7 v4.1 v4.2).bind fun _ =>
    (A7 (v4.1.set ((v4.2).toNat) v12) ((IntKind.wrap .i64 (v4.2 - 1)))).bind fun _ =>
    BG N p1 p3 j4 n4 ((v4.1.set ((v4.2).toNat) v12).set (((IntKind.wrap .i64 (v4.2 - 1))).toNat) v13, (IntKind.wrap .i64 (v4.2 - 1))))
    (j4 v4.1))
  fun j6 =>
  AR ((decide (p1 < v4.2)))
   ((A7 v4.1 v4.2).bind fun v8 =>
   (A7 v4.1 ((IntKind.wrap .i64 (v4.2 - 1)))).bind fun v9 =>
   (p3 ((v8, v9))).bind fun v10 =>
   j6 (decide (v10 < 0)))
   (j6 false)
def BE (N : Nat) (p1 : Int) (p2 : Int) (p3 : (Ae × Ae) → Option Int) (j1 : ((List Ae)) → Option ((List Ae))) : Nat → ((List Ae) × Int) → Option ((List Ae))
 | 0, _ => none
 | n1 + 1, v1 =>
  AR ((decide (v1.2 < p2)))
   (BG N p1 p3 (fun (v5 : (List Ae)) =>
    BE N p1 p2 p3 j1 n1 (v5, (IntKind.wrap .i64 (v1.2 + 1)))) N (v1.1, v1.2))
   (j1 v1.1)
def Cz (N : Nat) (p0 : List Ae) (p1 : Int) (p2 : Int) (p3 : (Ae × Ae) → Option Int) : Option ((List Ae)) :=
 BE N p1 p2 p3 (fun (v2 : (List Ae)) =>
  some v2) N (p0, (IntKind.wrap .i64 (p1 + 1)))
def Ca (N : Nat) (p2 : Int) (p3 : Int) (p4 : (Ae × Ae) → Option Int) (j1 : ((List Ae)) → Option ((List Ae))) : Nat → ((List Ae) × Int) → Option ((List Ae))
 | 0, _ => none
 | n1 + 1, v1 =>
  AR ((decide (p2 ≤ (IntKind.wrap .i64 ((IntKind.wrap .i64 (2 * v1.2)) + 1)))))
   (j1 v1.1)
   (Bi (fun (v4 : Int) =>
    (A7 v1.1 ((IntKind.wrap .i64 (p3 + v1.2)))).bind fun v11 =>
    (A7 v1.1 ((IntKind.wrap .i64 (p3 + v4)))).bind fun v12 =>
    (p4 ((v11, v12))).bind fun v13 =>
    AR ((!((decide (v13 < 0)))))
     (some v1.1)
     ((A7 v1.1 ((IntKind.wrap .i64 (p3 + v4)))).bind fun v15 =>
     (A7 v1.1 ((IntKind.wrap .i64 (p3 + v1.2)))).bind fun v16 =>
     (A7 v1.1 ((IntKind.wrap .i64 (p3 + v1.2)))).bind fun _ =>
     (A7 (v1.1.set (((IntKind.wrap .i64 (p3 + v1.2))).toNat) v15) ((IntKind.wrap .i64 (p3 + v4)))).bind fun _ =>
     Ca N p2 p3 p4 j1 n1 ((v1.1.set (((IntKind.wrap .i64 (p3 + v1.2))).toNat) v15).set (((IntKind.wrap .i64 (p3 + v4))).toNat) v16, v4)))
   fun j4 =>
   Bi (fun (v5 : Bool) =>
    AR v5
     (j4 (IntKind.wrap .i64 ((IntKind.wrap .i64 ((IntKind.wrap .i64 (2 * v1.2)) + 1)) + 1)))
     (j4 (IntKind.wrap .i64 ((IntKind.wrap .i64 (2 * v1.2)) + 1))))
   fun j5 =>
   AR ((decide ((IntKind.wrap .i64 ((IntKind.wrap .i64 ((IntKind.wrap .i64 (2 * v1.2)) + 1)) + 1)) < p2)))
    ((A7 v1.1 ((IntKind.wrap .i64 (p3 + (IntKind.wrap .i64 ((IntKind.wrap .i64 (2 * v1.2)) + 1)))))).bind fun v7 =>
    (A7 v1.1 ((IntKind.wrap .i64 ((IntKind.wrap .i64 (p3 + (IntKind.wrap .i64 ((IntKind.wrap .i64 (2 * v1.2)) + 1)))) + 1)))).bind fun v8 =>
    (p4 ((v7, v8))).bind fun v9 =>
    j5 (decide (v9 < 0)))
    (j5 false))
def Cq (N : Nat) (p0 : List Ae) (p1 : Int) (p2 : Int) (p3 : Int) (p4 : (Ae × Ae) → Option Int) : Option ((List Ae)) :=
 Ca N p2 p3 p4 (fun (v2 : (List Ae)) =>
  some v2) N (p0, p1)
def Cb (N : Nat) (p1 : Int) (p2 : Int) (p3 : (Ae × Ae) → Option Int) (j1 : ((List Ae)) → Option ((List Ae))) : Nat → ((List Ae) × Int) → Option ((List Ae))
 | 0, _ => none
 | n1 + 1, v1 =>
  AR ((decide (0 ≤ v1.2)))
   ((Cq N v1.1 v1.2 ((IntKind.wrap .i64 (p2 - p1))) p1 p3).bind fun v4 =>
   Cb N p1 p2 p3 j1 n1 (v4, (IntKind.wrap .i64 (v1.2 - 1))))
   (j1 v1.1)
def B7 (N : Nat) (p1 : Int) (p3 : (Ae × Ae) → Option Int) (j5 : ((List Ae)) → Option ((List Ae))) : Nat → ((List Ae) × Int) → Option ((List Ae))
 | 0, _ => none
 | n5 + 1, v5 =>
  AR ((decide (0 ≤ v5.2)))
   ((A7 v5.1 ((IntKind.wrap .i64 (p1 + v5.2)))).bind fun v8 =>
   (A7 v5.1 p1).bind fun v9 =>
   (A7 v5.1 p1).bind fun _ =>
   (A7 (v5.1.set ((p1).toNat) v8) ((IntKind.wrap .i64 (p1 + v5.2)))).bind fun _ =>
   (Cq N ((v5.1.set ((p1).toNat) v8).set (((IntKind.wrap .i64 (p1 + v5.2))).toNat) v9) 0 v5.2 p1 p3).bind fun v12 =>
   B7 N p1 p3 j5 n5 (v12, (IntKind.wrap .i64 (v5.2 - 1))))
   (j5 v5.1)
def CX (N : Nat) (p0 : List Ae) (p1 : Int) (p2 : Int) (p3 : (Ae × Ae) → Option Int) : Option ((List Ae)) :=
 Cb N p1 p2 p3 (fun (v2 : (List Ae)) =>
  B7 N p1 p3 (fun (v6 : (List Ae)) =>
   some v6) N (v2, (IntKind.wrap .i64 ((IntKind.wrap .i64 (p2 - p1)) - 1)))) N (p0, (IntKind.wrap .i64 (Int.tdiv ((IntKind.wrap .i64 ((IntKind.wrap .i64 (p2 - p1)) - 1))) 2)))
def D6 (N : Nat) (p0 : Int) : Option Int :=
 (EV N ((IntKind.wrap .u64 p0))).bind fun v1 =>
 (Ej (0 ≤ v1)).bind fun _ =>
 some ((Cn .u64 1 v1))
def Ef (_ : Nat) (p0 : Int) : Option (Int × Int) :=
 some ((Fo .u64 ((Fo .u64 ((Fo .u64 p0 ((Cn .u64 p0 13)))) ((DZ .u64 ((Fo .u64 p0 ((Cn .u64 p0 13)))) 7)))) ((Cn .u64 ((Fo .u64 ((Fo .u64 p0 ((Cn .u64 p0 13)))) ((DZ .u64 ((Fo .u64 p0 ((Cn .u64 p0 13)))) 7)))) 17))), (Fo .u64 ((Fo .u64 ((Fo .u64 p0 ((Cn .u64 p0 13)))) ((DZ .u64 ((Fo .u64 p0 ((Cn .u64 p0 13)))) 7)))) ((Cn .u64 ((Fo .u64 ((Fo .u64 p0 ((Cn .u64 p0 13)))) ((DZ .u64 ((Fo .u64 p0 ((Cn .u64 p0 13)))) 7)))) 17))))
def BH (N : Nat) (p1 : Int) (p2 : Int) (v2 : Int) (j3 : ((List Ae)) → Option ((List Ae))) : Nat → ((List Ae) × Int × Int) → Option ((List Ae))
 | 0, _ => none
 | n3 + 1, v3 =>
  AR ((decide (v3.2.2 ≤ (IntKind.wrap .i64 ((IntKind.wrap .i64 (p1 + (IntKind.wrap .i64 ((IntKind.wrap .i64 (Int.tdiv ((IntKind.wrap .i64 (p2 - p1))) 4)) * 2)))) + 1)))))
   ((Ef N v3.2.1).bind fun v6 =>
   Bi (fun (v7 : Int) =>
    (A7 v3.1 ((IntKind.wrap .i64 (p1 + v7)))).bind fun v9 =>
    (A7 v3.1 v3.2.2).bind fun v10 =>
    (A7 v3.1 v3.2.2).bind fun _ =>
    (A7 (v3.1.set ((v3.2.2).toNat) v9) ((IntKind.wrap .i64 (p1 + v7)))).bind fun _ =>
    BH N p1 p2 v2 j3 n3 ((v3.1.set ((v3.2.2).toNat) v9).set (((IntKind.wrap .i64 (p1 + v7))).toNat) v10, v6.2, (IntKind.wrap .i64 (v3.2.2 + 1))))
   fun j7 =>
   AR ((decide ((IntKind.wrap .i64 (p2 - p1)) ≤ (IntKind.wrap .i64 ((Gi .u64 v6.1 ((IntKind.wrap .u64 (v2 - 1)))))))))
    (j7 (IntKind.wrap .i64 ((IntKind.wrap .i64 ((Gi .u64 v6.1 ((IntKind.wrap .u64 (v2 - 1)))))) - (IntKind.wrap .i64 (p2 - p1)))))
    (j7 (IntKind.wrap .i64 ((Gi .u64 v6.1 ((IntKind.wrap .u64 (v2 - 1))))))))
   (j3 v3.1)
def CC (N : Nat) (p0 : List Ae) (p1 : Int) (p2 : Int) (_ : (Ae × Ae) → Option Int) : Option ((List Ae)) :=
 AR ((decide (8 ≤ (IntKind.wrap .i64 (p2 - p1)))))
  ((D6 N ((IntKind.wrap .i64 (p2 - p1)))).bind fun v2 =>
  BH N p1 p2 v2 (fun (v4 : (List Ae)) =>
   some v4) N (p0, (IntKind.wrap .u64 ((IntKind.wrap .i64 (p2 - p1)))), (IntKind.wrap .i64 ((IntKind.wrap .i64 (p1 + (IntKind.wrap .i64 ((IntKind.wrap .i64 (Int.tdiv ((IntKind.wrap .i64 (p2 - p1))) 4)) * 2)))) - 1))))
  (some p0)
def B3 (_ : Nat) (p0 : List Ae) (p1 : Int) (p2 : Int) (p3 : Int) (p4 : (Ae × Ae) → Option Int) : Option (Int × Int × Int) :=
 (A7 p0 p2).bind fun v1 =>
 (A7 p0 p1).bind fun v2 =>
 (p4 ((v1, v2))).bind fun v3 =>
 AR ((decide (v3 < 0)))
  (some (p2, p1, (IntKind.wrap .i64 (p3 + 1))))
  (some (p1, p2, p3))
def Cv (N : Nat) (p0 : List Ae) (p1 : Int) (p2 : Int) (p3 : Int) (p4 : Int) (p5 : (Ae × Ae) → Option Int) : Option (Int × Int) :=
 (B3 N p0 p1 p2 p4 p5).bind fun v1 =>
 (B3 N p0 v1.2.1 p3 v1.2.2 p5).bind fun v2 =>
 (B3 N p0 v1.1 v2.1 v2.2.2 p5).bind fun v3 =>
 some (v3.2.1, v3.2.2)
def Bj (N : Nat) (p0 : List Ae) (p1 : Int) (p2 : Int) (p3 : (Ae × Ae) → Option Int) : Option (Int × Int) :=
 (Cv N p0 ((IntKind.wrap .i64 (p1 - 1))) p1 ((IntKind.wrap .i64 (p1 + 1))) p2 p3).bind fun v1 =>
 some (v1.1, v1.2)
def CJ (N : Nat) (p0 : List Ae) (p1 : Int) (p2 : Int) (p3 : (Ae × Ae) → Option Int) : Option (Int × Int) :=
 Bi (fun (v1 : Int × Int) =>
  AR ((v1.1 == 0))
   (some (v1.2, 1))
   (AR ((v1.1 == 12))
    (some (v1.2, 2))
    (some (v1.2, 0))))
 fun j1 =>
 AR ((decide (8 ≤ (IntKind.wrap .i64 (p2 - p1)))))
  (Bi (fun (v3 : Int × Int × Int × Int) =>
   (Cv N p0 v3.2.1 v3.2.2.1 v3.2.2.2 v3.1 p3).bind fun v8 =>
   j1 (v8.2, v8.1))
  fun j3 =>
  AR ((decide (50 ≤ (IntKind.wrap .i64 (p2 - p1)))))
   ((Bj N p0 ((IntKind.wrap .i64 (p1 + (IntKind.wrap .i64 ((IntKind.wrap .i64 (Int.tdiv ((IntKind.wrap .i64 (p2 - p1))) 4)) * 1))))) 0 p3).bind fun v5 =>
   (Bj N p0 ((IntKind.wrap .i64 (p1 + (IntKind.wrap .i64 ((IntKind.wrap .i64 (Int.tdiv ((IntKind.wrap .i64 (p2 - p1))) 4)) * 2))))) v5.2 p3).bind fun v6 =>
   (Bj N p0 ((IntKind.wrap .i64 (p1 + (IntKind.wrap .i64 ((IntKind.wrap .i64 (Int.tdiv ((IntKind.wrap .i64 (p2 - p1))) 4)) * 3))))) v6.2 p3).bind fun v7 =>
   j3 (v7.2, v5.1, v6.1, v7.1))
   (j3 (0, (IntKind.wrap .i64 (p1 + (IntKind.wrap .i64 ((IntKind.wrap .i64 (Int.tdiv ((IntKind.wrap .i64 (p2 - p1))) 4)) * 1)))), (IntKind.wrap .i64 (p1 + (IntKind.wrap .i64 ((IntKind.wrap .i64 (Int.tdiv ((IntKind.wrap .i64 (p2 - p1))) 4)) * 2)))), (IntKind.wrap .i64 (p1 + (IntKind.wrap .i64 ((IntKind.wrap .i64 (Int.tdiv ((IntKind.wrap .i64 (p2 - p1))) 4)) * 3)))))))
  (j1 (0, (IntKind.wrap .i64 (p1 + (IntKind.wrap .i64 ((IntKind.wrap .i64 (Int.tdiv ((IntKind.wrap .i64 (p2 - p1))) 4)) * 2))))))
def BM (N : Nat) (j1 : ((List Ae)) → Option ((List Ae))) : Nat → ((List Ae) × Int × Int) → Option ((List Ae))
 | 0, _ => none
 | n1 + 1, v1 =>
  AR ((decide (v1.2.1 < v1.2.2)))
   ((A7 v1.1 v1.2.2).bind fun v4 =>
   (A7 v1.1 v1.2.1).bind fun v5 =>
   (A7 v1.1 v1.2.1).bind fun _ =>
   (A7 (v1.1.set ((v1.2.1).toNat) v4) v1.2.2).bind fun _ =>
   BM N j1 n1 ((v1.1.set ((v1.2.1).toNat) v4).set ((v1.2.2).toNat) v5, (IntKind.wrap .i64 (v1.2.1 + 1)), (IntKind.wrap .i64 (v1.2.2 - 1))))
   (j1 v1.1)
def CF (N : Nat) (p0 : List Ae) (p1 : Int) (p2 : Int) (_ : (Ae × Ae) → Option Int) : Option ((List Ae)) :=
 BM N (fun (v2 : (List Ae)) =>
  some v2) N (p0, p1, (IntKind.wrap .i64 (p2 - 1)))
def Be (N : Nat) (p2 : Int) (p3 : (Ae × Ae) → Option Int) (v1 : (List Ae) × Int × Int) (j5 : Int → Option (Bool × (List Ae))) : Nat → Int → Option (Bool × (List Ae))
 | 0, _ => none
 | n5 + 1, v5 =>
  Bi (fun (v7 : Bool) =>
   AR v7
    (Be N p2 p3 v1 j5 n5 (IntKind.wrap .i64 (v5 + 1)))
    (j5 v5))
  fun j7 =>
  AR ((decide (v5 < p2)))
   ((A7 v1.1 v5).bind fun v9 =>
   (A7 v1.1 ((IntKind.wrap .i64 (v5 - 1)))).bind fun v10 =>
   (p3 ((v9, v10))).bind fun v11 =>
   j7 (!((decide (v11 < 0)))))
   (j7 false)
def A9 (N : Nat) (p3 : (Ae × Ae) → Option Int) (j21 : ((List Ae)) → Option (Bool × (List Ae))) : Nat → ((List Ae) × Int) → Option (Bool × (List Ae))
 | 0, _ => none
 | n21 + 1, v21 =>
  AR ((decide (1 ≤ v21.2)))
   ((A7 v21.1 v21.2).bind fun v24 =>
   (A7 v21.1 ((IntKind.wrap .i64 (v21.2 - 1)))).bind fun v25 =>
   (p3 ((v24, v25))).bind fun v26 =>
   AR ((!((decide (v26 < 0)))))
    (j21 v21.1)
    ((A7 v21.1 ((IntKind.wrap .i64 (v21.2 - 1)))).bind fun v28 =>
    (A7 v21.1 v21.2).bind fun v29 =>
    (A7 v21.1 v21.2).bind fun _ =>
    (A7 (v21.1.set ((v21.2).toNat) v28) ((IntKind.wrap .i64 (v21.2 - 1)))).bind fun _ =>
    A9 N p3 j21 n21 ((v21.1.set ((v21.2).toNat) v28).set (((IntKind.wrap .i64 (v21.2 - 1))).toNat) v29, (IntKind.wrap .i64 (v21.2 - 1)))))
   (j21 v21.1)
def A8 (N : Nat) (p2 : Int) (p3 : (Ae × Ae) → Option Int) (j33 : ((List Ae)) → Option (Bool × (List Ae))) : Nat → ((List Ae) × Int) → Option (Bool × (List Ae))
 | 0, _ => none
 | n33 + 1, v33 =>
  AR ((decide (v33.2 < p2)))
   ((A7 v33.1 v33.2).bind fun v36 =>
   (A7 v33.1 ((IntKind.wrap .i64 (v33.2 - 1)))).bind fun v37 =>
   (p3 ((v36, v37))).bind fun v38 =>
   AR ((!((decide (v38 < 0)))))
    (j33 v33.1)
    ((A7 v33.1 ((IntKind.wrap .i64 (v33.2 - 1)))).bind fun v40 =>
    (A7 v33.1 v33.2).bind fun v41 =>
    (A7 v33.1 v33.2).bind fun _ =>
    (A7 (v33.1.set ((v33.2).toNat) v40) ((IntKind.wrap .i64 (v33.2 - 1)))).bind fun _ =>
    A8 N p2 p3 j33 n33 ((v33.1.set ((v33.2).toNat) v40).set (((IntKind.wrap .i64 (v33.2 - 1))).toNat) v41, (IntKind.wrap .i64 (v33.2 + 1)))))
   (j33 v33.1)
def Bd (N : Nat) (p1 : Int) (p2 : Int) (p3 : (Ae × Ae) → Option Int) (j1 : ((List Ae)) → Option (Bool × (List Ae))) : Nat → ((List Ae) × Int × Int) → Option (Bool × (List Ae))
 | 0, _ => none
 | n1 + 1, v1 =>
  AR ((decide (v1.2.2 < 5)))
   (Bi (fun (v4 : (List Ae) × Int) =>
    Bd N p1 p2 p3 j1 n1 (v4.1, v4.2, (IntKind.wrap .i64 (v1.2.2 + 1))))
   fun j4 =>
   Be N p2 p3 v1 (fun (v6 : Int) =>
    AR ((v6 == p2))
     (some (true, v1.1))
     (AR ((decide ((IntKind.wrap .i64 (p2 - p1)) < 50)))
      (some (false, v1.1))
      ((A7 v1.1 ((IntKind.wrap .i64 (v6 - 1)))).bind fun v15 =>
      (A7 v1.1 v6).bind fun v16 =>
      (A7 v1.1 v6).bind fun _ =>
      (A7 (v1.1.set ((v6).toNat) v15) ((IntKind.wrap .i64 (v6 - 1)))).bind fun _ =>
      Bi (fun (v19 : (List Ae)) =>
       AR ((decide (2 ≤ (IntKind.wrap .i64 (p2 - v6)))))
        (A8 N p2 p3 (fun (v34 : (List Ae)) =>
         j4 (v34, v6)) N (v19, (IntKind.wrap .i64 (v6 + 1))))
        (j4 (v19, v6)))
      fun j19 =>
      AR ((decide (2 ≤ (IntKind.wrap .i64 (v6 - p1)))))
       (A9 N p3 (fun (v22 : (List Ae)) =>
        j19 v22) N ((v1.1.set ((v6).toNat) v15).set (((IntKind.wrap .i64 (v6 - 1))).toNat) v16, (IntKind.wrap .i64 (v6 - 1))))
       (j19 ((v1.1.set ((v6).toNat) v15).set (((IntKind.wrap .i64 (v6 - 1))).toNat) v16))))) N v1.2.1)
   (j1 v1.1)
def B4 (N : Nat) (p0 : List Ae) (p1 : Int) (p2 : Int) (p3 : (Ae × Ae) → Option Int) : Option (Bool × (List Ae)) :=
 Bd N p1 p2 p3 (fun (v2 : (List Ae)) =>
  some (false, v2)) N (p0, (IntKind.wrap .i64 (p1 + 1)), 0)
def Bz (N : Nat) (p1 : Int) (p4 : (Ae × Ae) → Option Int) (v5 : (List Ae) × Int × Int) (j7 : Int → Option (Int × (List Ae))) : Nat → Int → Option (Int × (List Ae))
 | 0, _ => none
 | n7 + 1, v7 =>
  Bi (fun (v9 : Bool) =>
   AR v9
    (Bz N p1 p4 v5 j7 n7 (IntKind.wrap .i64 (v7 + 1)))
    (j7 v7))
  fun j9 =>
  AR ((decide (v7 ≤ v5.2.2)))
   ((A7 v5.1 p1).bind fun v11 =>
   (A7 v5.1 v7).bind fun v12 =>
   (p4 ((v11, v12))).bind fun v13 =>
   j9 (!((decide (v13 < 0)))))
   (j9 false)
def Br (N : Nat) (p1 : Int) (p4 : (Ae × Ae) → Option Int) (v5 : (List Ae) × Int × Int) (v8 : Int) (j15 : Int → Option (Int × (List Ae))) : Nat → Int → Option (Int × (List Ae))
 | 0, _ => none
 | n15 + 1, v15 =>
  Bi (fun (v17 : Bool) =>
   AR v17
    (Br N p1 p4 v5 v8 j15 n15 (IntKind.wrap .i64 (v15 - 1)))
    (j15 v15))
  fun j17 =>
  AR ((decide (v8 ≤ v15)))
   ((A7 v5.1 p1).bind fun v19 =>
   (A7 v5.1 v15).bind fun v20 =>
   (p4 ((v19, v20))).bind fun v21 =>
   j17 (decide (v21 < 0)))
   (j17 false)
def Bw (N : Nat) (p1 : Int) (p4 : (Ae × Ae) → Option Int) (j5 : ((List Ae) × Int) → Option (Int × (List Ae))) : Nat → ((List Ae) × Int × Int) → Option (Int × (List Ae))
 | 0, _ => none
 | n5 + 1, v5 =>
  Bz N p1 p4 v5 (fun (v8 : Int) =>
   Br N p1 p4 v5 v8 (fun (v16 : Int) =>
    AR ((decide (v16 < v8)))
     (j5 (v5.1, v8))
     ((A7 v5.1 v16).bind fun v24 =>
     (A7 v5.1 v8).bind fun v25 =>
     (A7 v5.1 v8).bind fun _ =>
     (A7 (v5.1.set ((v8).toNat) v24) v16).bind fun _ =>
     Bw N p1 p4 j5 n5 ((v5.1.set ((v8).toNat) v24).set ((v16).toNat) v25, (IntKind.wrap .i64 (v8 + 1)), (IntKind.wrap .i64 (v16 - 1))))) N v5.2.2) N v5.2.1
def Ct (N : Nat) (p0 : List Ae) (p1 : Int) (p2 : Int) (p3 : Int) (p4 : (Ae × Ae) → Option Int) : Option (Int × (List Ae)) :=
 (A7 p0 p3).bind fun v1 =>
 (A7 p0 p1).bind fun v2 =>
 (A7 p0 p1).bind fun _ =>
 (A7 (p0.set ((p1).toNat) v1) p3).bind fun _ =>
 Bw N p1 p4 (fun (v6 : (List Ae) × Int) =>
  some (v6.2, v6.1)) N ((p0.set ((p1).toNat) v1).set ((p3).toNat) v2, (IntKind.wrap .i64 (p1 + 1)), (IntKind.wrap .i64 (p2 - 1)))
def BZ (N : Nat) (p0 : List Ae) (p1 : Int) (p2 : Int) (p3 : Int) (p4 : (Ae × Ae) → Option Int) (v1 : Ae) (v2 : Ae) (j5 : Int → Option (Int × Bool × (List Ae))) : Nat → Int → Option (Int × Bool × (List Ae))
 | 0, _ => none
 | n5 + 1, v5 =>
  Bi (fun (v7 : Bool) =>
   AR v7
    (BZ N p0 p1 p2 p3 p4 v1 v2 j5 n5 (IntKind.wrap .i64 (v5 + 1)))
    (j5 v5))
  fun j7 =>
  AR ((decide (v5 ≤ (IntKind.wrap .i64 (p2 - 1)))))
   ((A7 ((p0.set ((p1).toNat) v1).set ((p3).toNat) v2) v5).bind fun v9 =>
   (A7 ((p0.set ((p1).toNat) v1).set ((p3).toNat) v2) p1).bind fun v10 =>
   (p4 ((v9, v10))).bind fun v11 =>
   j7 (decide (v11 < 0)))
   (j7 false)
def BU (N : Nat) (p0 : List Ae) (p1 : Int) (p3 : Int) (p4 : (Ae × Ae) → Option Int) (v1 : Ae) (v2 : Ae) (v6 : Int) (j13 : Int → Option (Int × Bool × (List Ae))) : Nat → Int → Option (Int × Bool × (List Ae))
 | 0, _ => none
 | n13 + 1, v13 =>
  Bi (fun (v15 : Bool) =>
   AR v15
    (BU N p0 p1 p3 p4 v1 v2 v6 j13 n13 (IntKind.wrap .i64 (v13 - 1)))
    (j13 v13))
  fun j15 =>
  AR ((decide (v6 ≤ v13)))
   ((A7 ((p0.set ((p1).toNat) v1).set ((p3).toNat) v2) v13).bind fun v17 =>
   (A7 ((p0.set ((p1).toNat) v1).set ((p3).toNat) v2) p1).bind fun v18 =>
   (p4 ((v17, v18))).bind fun v19 =>
   j15 (!((decide (v19 < 0)))))
   (j15 false)
def BV (N : Nat) (p1 : Int) (p4 : (Ae × Ae) → Option Int) (v30 : (List Ae) × Int × Int) (j32 : Int → Option (Int × Bool × (List Ae))) : Nat → Int → Option (Int × Bool × (List Ae))
 | 0, _ => none
 | n32 + 1, v32 =>
  Bi (fun (v34 : Bool) =>
   AR v34
    (BV N p1 p4 v30 j32 n32 (IntKind.wrap .i64 (v32 + 1)))
    (j32 v32))
  fun j34 =>
  AR ((decide (v32 ≤ v30.2.2)))
   ((A7 v30.1 v32).bind fun v36 =>
   (A7 v30.1 p1).bind fun v37 =>
   (p4 ((v36, v37))).bind fun v38 =>
   j34 (decide (v38 < 0)))
   (j34 false)
def BR (N : Nat) (p1 : Int) (p4 : (Ae × Ae) → Option Int) (v30 : (List Ae) × Int × Int) (v33 : Int) (j40 : Int → Option (Int × Bool × (List Ae))) : Nat → Int → Option (Int × Bool × (List Ae))
 | 0, _ => none
 | n40 + 1, v40 =>
  Bi (fun (v42 : Bool) =>
   AR v42
    (BR N p1 p4 v30 v33 j40 n40 (IntKind.wrap .i64 (v40 - 1)))
    (j40 v40))
  fun j42 =>
  AR ((decide (v33 ≤ v40)))
   ((A7 v30.1 v40).bind fun v44 =>
   (A7 v30.1 p1).bind fun v45 =>
   (p4 ((v44, v45))).bind fun v46 =>
   j42 (!((decide (v46 < 0)))))
   (j42 false)
def BS (N : Nat) (p1 : Int) (p4 : (Ae × Ae) → Option Int) (j30 : ((List Ae) × Int) → Option (Int × Bool × (List Ae))) : Nat → ((List Ae) × Int × Int) → Option (Int × Bool × (List Ae))
 | 0, _ => none
 | n30 + 1, v30 =>
  BV N p1 p4 v30 (fun (v33 : Int) =>
   BR N p1 p4 v30 v33 (fun (v41 : Int) =>
    AR ((decide (v41 < v33)))
     (j30 (v30.1, v41))
     ((A7 v30.1 v41).bind fun v49 =>
     (A7 v30.1 v33).bind fun v50 =>
     (A7 v30.1 v33).bind fun _ =>
     (A7 (v30.1.set ((v33).toNat) v49) v41).bind fun _ =>
     BS N p1 p4 j30 n30 ((v30.1.set ((v33).toNat) v49).set ((v41).toNat) v50, (IntKind.wrap .i64 (v33 + 1)), (IntKind.wrap .i64 (v41 - 1))))) N v30.2.2) N v30.2.1
def CQ (N : Nat) (p0 : List Ae) (p1 : Int) (p2 : Int) (p3 : Int) (p4 : (Ae × Ae) → Option Int) : Option (Int × Bool × (List Ae)) :=
 (A7 p0 p3).bind fun v1 =>
 (A7 p0 p1).bind fun v2 =>
 (A7 p0 p1).bind fun _ =>
 (A7 (p0.set ((p1).toNat) v1) p3).bind fun _ =>
 BZ N p0 p1 p2 p3 p4 v1 v2 (fun (v6 : Int) =>
  BU N p0 p1 p3 p4 v1 v2 v6 (fun (v14 : Int) =>
   AR ((decide (v14 < v6)))
    ((A7 ((p0.set ((p1).toNat) v1).set ((p3).toNat) v2) p1).bind fun v22 =>
    (A7 ((p0.set ((p1).toNat) v1).set ((p3).toNat) v2) v14).bind fun v23 =>
    (A7 ((p0.set ((p1).toNat) v1).set ((p3).toNat) v2) v14).bind fun _ =>
    (A7 (((p0.set ((p1).toNat) v1).set ((p3).toNat) v2).set ((v14).toNat) v22) p1).bind fun _ =>
    some (v14, true, (((p0.set ((p1).toNat) v1).set ((p3).toNat) v2).set ((v14).toNat) v22).set ((p1).toNat) v23))
    ((A7 ((p0.set ((p1).toNat) v1).set ((p3).toNat) v2) v14).bind fun v26 =>
    (A7 ((p0.set ((p1).toNat) v1).set ((p3).toNat) v2) v6).bind fun v27 =>
    (A7 ((p0.set ((p1).toNat) v1).set ((p3).toNat) v2) v6).bind fun _ =>
    (A7 (((p0.set ((p1).toNat) v1).set ((p3).toNat) v2).set ((v6).toNat) v26) v14).bind fun _ =>
    BS N p1 p4 (fun (v31 : (List Ae) × Int) =>
     (A7 v31.1 p1).bind fun v53 =>
     (A7 v31.1 v31.2).bind fun v54 =>
     (A7 v31.1 v31.2).bind fun _ =>
     (A7 (v31.1.set ((v31.2).toNat) v53) p1).bind fun _ =>
     some (v31.2, false, (v31.1.set ((v31.2).toNat) v53).set ((p1).toNat) v54)) N ((((p0.set ((p1).toNat) v1).set ((p3).toNat) v2).set ((v6).toNat) v26).set ((v14).toNat) v27, (IntKind.wrap .i64 (v6 + 1)), (IntKind.wrap .i64 (v14 - 1))))) N (IntKind.wrap .i64 (p2 - 1))) N (IntKind.wrap .i64 (p1 + 1))
def Bb (N : Nat) (p4 : (Ae × Ae) → Option Int) (rc : (List Ae) → Int → Int → Int → ((Ae × Ae) → Option Int) → Option ((List Ae))) (j1 : Unit → Option ((List Ae))) : Nat → ((List Ae) × Int × Int × Int × Bool × Bool) → Option ((List Ae))
 | 0, _ => none
 | n1 + 1, v1 =>
  AR ((decide ((IntKind.wrap .i64 (v1.2.2.1 - v1.2.1)) ≤ 12)))
   ((Cz N v1.1 v1.2.1 v1.2.2.1 p4).bind fun v4 =>
   some v4)
   (AR ((v1.2.2.2.1 == 0))
    ((CX N v1.1 v1.2.1 v1.2.2.1 p4).bind fun v6 =>
    some v6)
    (Bi (fun (v7 : (List Ae) × Int) =>
     (CJ N v7.1 v1.2.1 v1.2.2.1 p4).bind fun v10 =>
     Bi (fun (v11 : (List Ae) × Int × Int) =>
      Bi (fun (v14 : (List Ae)) =>
       Bi (fun (v21 : Bool) =>
        AR v21
         ((Ct N v14 v1.2.1 v1.2.2.1 v11.2.1 p4).bind fun v27 =>
         Bb N p4 rc j1 n1 (v27.2, v27.1, v1.2.2.1, v7.2, v1.2.2.2.2.1, v1.2.2.2.2.2))
         ((CQ N v14 v1.2.1 v1.2.2.1 v11.2.1 p4).bind fun v28 =>
         AR ((decide ((IntKind.wrap .i64 (v28.1 - v1.2.1)) < (IntKind.wrap .i64 (v1.2.2.1 - v28.1)))))
          ((rc v28.2.2 v1.2.1 v28.1 v7.2 p4).bind fun v30 =>
          Bb N p4 rc j1 n1 (v30, (IntKind.wrap .i64 (v28.1 + 1)), v1.2.2.1, v7.2, (decide ((IntKind.wrap .i64 (Int.tdiv ((IntKind.wrap .i64 (v1.2.2.1 - v1.2.1))) 8)) ≤ (IntKind.wrap .i64 (v28.1 - v1.2.1)))), v28.2.1))
          ((rc v28.2.2 ((IntKind.wrap .i64 (v28.1 + 1))) v1.2.2.1 v7.2 p4).bind fun v31 =>
          Bb N p4 rc j1 n1 (v31, v1.2.1, v28.1, v7.2, (decide ((IntKind.wrap .i64 (Int.tdiv ((IntKind.wrap .i64 (v1.2.2.1 - v1.2.1))) 8)) ≤ (IntKind.wrap .i64 (v1.2.2.1 - v28.1)))), v28.2.1))))
       fun j21 =>
       AR ((decide (0 < v1.2.1)))
        ((A7 v14 ((IntKind.wrap .i64 (v1.2.1 - 1)))).bind fun v23 =>
        (A7 v14 v11.2.1).bind fun v24 =>
        (p4 ((v23, v24))).bind fun v25 =>
        j21 (!((decide (v25 < 0)))))
        (j21 false))
      fun j14 =>
      Bi (fun (v15 : Bool) =>
       AR v15
        ((B4 N v11.1 v1.2.1 v1.2.2.1 p4).bind fun v19 =>
        AR v19.1
         (some v19.2)
         (j14 v19.2))
        (j14 v11.1))
      fun j15 =>
      AR v1.2.2.2.2.1
       (AR v1.2.2.2.2.2
        (j15 (v11.2.2 == 1))
        (j15 false))
       (j15 false))
     fun j11 =>
     AR ((v10.2 == 2))
      ((CF N v7.1 v1.2.1 v1.2.2.1 p4).bind fun v13 =>
      j11 (v13, (IntKind.wrap .i64 ((IntKind.wrap .i64 (v1.2.2.1 - 1)) - (IntKind.wrap .i64 (v10.1 - v1.2.1)))), 1))
      (j11 (v7.1, v10.1, v10.2)))
    fun j7 =>
    AR ((!v1.2.2.2.2.1))
     ((CC N v1.1 v1.2.1 v1.2.2.1 p4).bind fun v9 =>
     j7 (v9, (IntKind.wrap .i64 (v1.2.2.2.1 - 1))))
     (j7 (v1.1, v1.2.2.2.1))))
def CS (N : Nat) (rc : (List Ae) → Int → Int → Int → ((Ae × Ae) → Option Int) → Option ((List Ae))) (p0 : List Ae) (p1 : Int) (p2 : Int) (p3 : Int) (p4 : (Ae × Ae) → Option Int) : Option ((List Ae)) :=
 Bb N p4 rc (fun (_ : Unit) =>
  none) N (p0, p1, p2, p3, true, true)
def Ck (N : Nat) : Nat → (List Ae) → Int → Int → Int → ((Ae × Ae) → Option Int) → Option ((List Ae))
 | 0, _, _, _, _, _ => none
 | k + 1, p0, p1, p2, p3, p4 => CS N (Ck N k) p0 p1 p2 p3 p4
def D1 (N : Nat) (p0 : List Ae) (p1 : Int) (p2 : Int) (p3 : Int) (p4 : (Ae × Ae) → Option Int) : Option ((List Ae)) := Ck N N p0 p1 p2 p3 p4
def Ci (N : Nat) (p0 : List Ae) (p1 : (Ae × Ae) → Option Int) : Option ((List Ae)) :=
 (EV N ((IntKind.wrap .u64 ((p0.length : Int))))).bind fun v1 =>
 (D1 N p0 0 ((p0.length : Int)) v1 p1).bind fun v2 =>
 some v2
def EU (_ : Nat) (p0 : Int) : Option Bool :=
 some ((p0 != p0))
def Fn (N : Nat) (p0 : Int) (p1 : Int) : Option Int :=
 (EU N p0).bind fun v1 =>
 (EU N p1).bind fun v2 =>
 AR v1
  (AR v2
   (some 0)
   (some ((-1))))
  (AR v2
   (some 1)
   (AR ((decide (p0 < p1)))
    (some ((-1)))
    (AR ((decide (p1 < p0)))
     (some 1)
     (some 0))))
def CP (N : Nat) (p0 : List Int) (p1 : List Int) (j1 : Unit → Option Int) : Nat → Int → Option Int
 | 0, _ => none
 | n1 + 1, v1 =>
  AR ((decide (v1 < (p0.length : Int))))
   ((A7 p0 v1).bind fun v4 =>
   AR ((decide ((p1.length : Int) ≤ v1)))
    (some 1)
    ((A7 p1 v1).bind fun v6 =>
    (Fn N v4 v6).bind fun v7 =>
    AR ((v7 != 0))
     (some v7)
     (CP N p0 p1 j1 n1 (IntKind.wrap .i64 (v1 + 1)))))
   (j1 ())
def Db (N : Nat) (p0 : List Int) (p1 : List Int) : Option Int :=
 CP N p0 p1 (fun (_ : Unit) =>
  AR ((decide ((p0.length : Int) < (p1.length : Int))))
   (some ((-1)))
   (some 0)) N 0
def DW (_ : Nat) (p0 : Int) : Option Bool :=
 some ((p0 != p0))
def Eo (N : Nat) (p0 : Int) (p1 : Int) : Option Int :=
 (DW N p0).bind fun v1 =>
 (DW N p1).bind fun v2 =>
 AR v1
  (AR v2
   (some 0)
   (some ((-1))))
  (AR v2
   (some 1)
   (AR ((decide (p0 < p1)))
    (some ((-1)))
    (AR ((decide (p1 < p0)))
     (some 1)
     (some 0))))
def B9 (N : Nat) (p0 : List Int) (p1 : List Int) (j1 : Unit → Option Int) : Nat → Int → Option Int
 | 0, _ => none
 | n1 + 1, v1 =>
  AR ((decide (v1 < (p0.length : Int))))
   ((A7 p0 v1).bind fun v4 =>
   AR ((decide ((p1.length : Int) ≤ v1)))
    (some 1)
    ((A7 p1 v1).bind fun v6 =>
    (Eo N v4 v6).bind fun v7 =>
    AR ((v7 != 0))
     (some v7)
     (B9 N p0 p1 j1 n1 (IntKind.wrap .i64 (v1 + 1)))))
   (j1 ())
def CY (N : Nat) (p0 : List Int) (p1 : List Int) : Option Int :=
 B9 N p0 p1 (fun (_ : Unit) =>
  AR ((decide ((p0.length : Int) < (p1.length : Int))))
   (some ((-1)))
   (some 0)) N 0
def EX (N : Nat) (p0 : List Int) (j1 : Unit → Option Int) : Nat → Int → Option Int
 | 0, _ => none
 | n1 + 1, v1 =>
  AR ((decide (v1 < (p0.length : Int))))
   ((A7 p0 v1).bind fun v4 =>
   AR ((v4 != 0))
    (some v4)
    (EX N p0 j1 n1 (IntKind.wrap .i64 (v1 + 1))))
   (j1 ())
def He (N : Nat) (p0 : List Int) : Option Int :=
 EX N p0 (fun (_ : Unit) =>
  some 0) N 0
def DI (N : Nat) (p0 : Ae) (p1 : Ae) : Option Int :=
 (Db N p0.fBase p1.fBase).bind fun v1 =>
 (Db N p0.fNext p1.fNext).bind fun v2 =>
 (CY N p0.fHeld p1.fHeld).bind fun v3 =>
 (He N (([v1, v2, v3] : List Int))).bind fun v4 =>
 some v4
def D9 (N : Nat) (v10 : (List Av) × (List Ae)) (j11 : ((List Ae) × (List (ByteArray × Bool))) → Option ((List Ae) × Int)) : Nat → ((List Ae) × (List (ByteArray × Bool)) × Int) → Option ((List Ae) × Int)
 | 0, _ => none
 | n11 + 1, v11 =>
  AR ((decide (v11.2.2 < (v10.2.length : Int))))
   (Bi (fun (v14 : (List Ae) × (List (ByteArray × Bool))) =>
    D9 N v10 j11 n11 (v14.1, v14.2, (IntKind.wrap .i64 (v11.2.2 + 1))))
   fun j14 =>
   (A7 v10.2 v11.2.2).bind fun v15 =>
   (FC N v15).bind fun v16 =>
   AR ((!(((Jm v16 v11.2.1).getD false))))
    ((FC N v15).bind fun v18 =>
    (Ej (v11.1.length + (([v15] : List Ae)).length ≤ Fz)).bind fun _ =>
    j14 (v11.1 ++ (([v15] : List Ae)), Jv v18 true v11.2.1))
    (j14 (v11.1, v11.2.1)))
   (j11 (v11.1, v11.2.1))
def El (N : Nat) (p0 : Ai) (j6 : ((List Ae)) → Option ((List Ae) × Int)) : Nat → ((List Ae) × (List (ByteArray × Bool)) × Int) → Option ((List Ae) × Int)
 | 0, _ => none
 | n6 + 1, v6 =>
  AR ((decide (v6.2.2 < (v6.1.length : Int))))
   ((A7 v6.1 v6.2.2).bind fun v9 =>
   (Gb N p0 v9).bind fun v10 =>
   D9 N v10 (fun (v12 : (List Ae) × (List (ByteArray × Bool))) =>
    AR ((decide (20000 < (v12.1.length : Int))))
     (some (([] : List Ae), 3))
     (El N p0 j6 n6 (v12.1, v12.2, (IntKind.wrap .i64 (v6.2.2 + 1))))) N (v6.1, v6.2.1, 0))
   (j6 v6.1)
def Fj (N : Nat) (p0 : Ai) : Option ((List Ae) × Int) :=
 (FK N p0).bind fun v1 =>
 Bi (fun (v2 : Bool) =>
  AR v2
   (some (([] : List Ae), v1.2.2))
   ((FC N v1.1).bind fun v5 =>
   El N p0 (fun (v7 : (List Ae)) =>
    (Ci N v7 ((fun (x : Ae × Ae) => DI N x.1 x.2))).bind fun v21 =>
    some (v21, 0)) N (([v1.1] : List Ae), Jv v5 true (([] : List (ByteArray × Bool))), 0)))
 fun j2 =>
 AR ((v1.2.2 != 0))
  (j2 true)
  (j2 (!v1.2.1))
def ET (N : Nat) (p0 : Ai) (p1 : List Int) (j5 : ((List Av)) → Option ((List Av) × Int)) : Nat → ((List Int) × (List Int) × (List Int) × (List Av) × Int) → Option ((List Av) × Int)
 | 0, _ => none
 | n5 + 1, v5 =>
  AR ((decide (v5.2.2.2.2 < (p1.length : Int))))
   ((A7 p1 v5.2.2.2.2).bind fun v8 =>
   (Gb N p0 ((Ae.mk v5.1 v5.2.1 v5.2.2.1))).bind fun v9 =>
   AR (((v9.1.length : Int) == 0))
    (j5 v5.2.2.2.1)
    ((Ej ((v9.1.length : Int) ≠ 0)).bind fun _ =>
    (A7 v9.1 ((Int.tmod ((IntKind.wrap .i64 v8)) ((v9.1.length : Int))))).bind fun v12 =>
    (Ej (v5.2.2.2.1.length + (([v12] : List Av)).length ≤ Fz)).bind fun _ =>
    (A7 v9.2 ((Int.tmod ((IntKind.wrap .i64 v8)) ((v9.1.length : Int))))).bind fun v14 =>
    ET N p0 p1 j5 n5 (v14.fBase, v14.fNext, v14.fHeld, v5.2.2.2.1 ++ (([v12] : List Av)), (IntKind.wrap .i64 (v5.2.2.2.2 + 1)))))
   (j5 v5.2.2.2.1)
def Hn (N : Nat) (p0 : Ai) (p1 : List Int) : Option ((List Av) × Int) :=
 (FK N p0).bind fun v1 =>
 Bi (fun (v2 : Bool) =>
  AR v2
   (some (([] : List Av), v1.2.2))
   (ET N p0 p1 (fun (v6 : (List Av)) =>
    some (v6, 0)) N (v1.1.fBase, v1.1.fNext, v1.1.fHeld, ([] : List Av), 0)))
 fun j2 =>
 AR ((v1.2.2 != 0))
  (j2 true)
  (j2 (!v1.2.1))
def FG (N : Nat) (p0 : Ai) (p2 : List Av) (j4 : ((List Ae)) → Option ((List Ae) × Int × Int)) : Nat → ((List Ae) × Int) → Option ((List Ae) × Int × Int)
 | 0, _ => none
 | n4 + 1, v4 =>
  AR ((decide (v4.2 < (p2.length : Int))))
   ((A7 p2 v4.2).bind fun v7 =>
   (A7 v4.1 v4.2).bind fun v8 =>
   (Gf N p0 v8 v7).bind fun v9 =>
   AR ((v9.2 != 0))
    (some (([] : List Ae), v4.2, v9.2))
    ((Ej (v4.1.length + (([v9.1] : List Ae)).length ≤ Fz)).bind fun _ =>
    FG N p0 p2 j4 n4 (v4.1 ++ (([v9.1] : List Ae)), (IntKind.wrap .i64 (v4.2 + 1)))))
   (j4 v4.1)
def Ia (N : Nat) (p0 : Ai) (p1 : Ae) (p2 : List Av) : Option ((List Ae) × Int × Int) :=
 (DC N p0 p1).bind fun v1 =>
 AR ((v1 != 0))
  (some (([] : List Ae), 0, v1))
  ((FE N p1).bind fun v3 =>
  FG N p0 p2 (fun (v5 : (List Ae)) =>
   some (v5, (p2.length : Int), 0)) N (([v3] : List Ae), 0))
def GB (N : Nat) (p0 : Ai) (p1 : List Av) : Option ((List Ae) × Int × Int) :=
 (GF N p0).bind fun v1 =>
 AR ((v1.2 != 0))
  (some (([] : List Ae), 0, v1.2))
  ((Ia N p0 v1.1 p1).bind fun v3 =>
  some (v3.1, v3.2.1, v3.2.2))
def BF (N : Nat) (p0 : List Ae) (p1 : (Ae × Ae) → Option Bool) (v2 : Int) (j11 : ((List Ae) × Int) → Option (Nat × (List Ae))) : Nat → ((List Ae) × Int × Int) → Option (Nat × (List Ae))
 | 0, _ => none
 | n11 + 1, v11 =>
  AR ((decide (v11.2.2 < ((((p0.length - (v2).toNat)) : Nat) : Int))))
   (Bi (fun (v14 : (List Ae) × Int) =>
    BF N p0 p1 v2 j11 n11 (v14.1, v14.2, (IntKind.wrap .i64 (v11.2.2 + 1))))
   fun j14 =>
   (Ej (((v2).toNat) + ((p0.length - (v2).toNat)) ≤ v11.1.length)).bind fun _ =>
   (A7 (((v11.1.drop ((v2).toNat)).take ((p0.length - (v2).toNat)))) v11.2.2).bind fun v15 =>
   (A7 (((v11.1.drop ((v2).toNat)).take ((p0.length - (v2).toNat)))) ((IntKind.wrap .i64 (v11.2.2 - 1)))).bind fun v17 =>
   (p1 ((v15, v17))).bind fun v18 =>
   AR ((!v18))
    ((A7 (((v11.1.drop ((v2).toNat)).take ((p0.length - (v2).toNat)))) v11.2.2).bind fun v20 =>
    (A7 v11.1 v11.2.1).bind fun _ =>
    j14 (v11.1.set ((v11.2.1).toNat) v20, (IntKind.wrap .i64 (v11.2.1 + 1))))
    (j14 (v11.1, v11.2.1)))
   (j11 (v11.1, v11.2.1))
def BK (N : Nat) (p0 : List Ae) (p1 : (Ae × Ae) → Option Bool) (j2 : Unit → Option (Nat × (List Ae))) : Nat → Int → Option (Nat × (List Ae))
 | 0, _ => none
 | n2 + 1, v2 =>
  AR ((decide (v2 < (p0.length : Int))))
   ((A7 p0 v2).bind fun v5 =>
   (A7 p0 ((IntKind.wrap .i64 (v2 - 1)))).bind fun v6 =>
   (p1 ((v5, v6))).bind fun v7 =>
   AR v7
    ((Ej ((0 : Int) ≤ v2 ∧ (v2).toNat ≤ p0.length ∧ p0.length ≤ p0.length)).bind fun _ =>
    BF N p0 p1 v2 (fun (v12 : (List Ae) × Int) =>
     (Ej ((0 : Int) ≤ v12.2 ∧ (v12.2).toNat ≤ v12.1.length ∧ v12.1.length ≤ v12.1.length)).bind fun _ =>
     (Ej ((0 : Int) ≤ v12.2 ∧ 0 ≤ (v12.2).toNat ∧ (v12.2).toNat ≤ (Hz v12.1 ((v12.2).toNat) (List.replicate ((v12.1.length - (v12.2).toNat)) ((Ae.mk (([] : List Int)) (([] : List Int)) (([] : List Int)))))).length)).bind fun _ =>
     some ((v12.2).toNat, Hz v12.1 ((v12.2).toNat) (List.replicate ((v12.1.length - (v12.2).toNat)) ((Ae.mk (([] : List Int)) (([] : List Int)) (([] : List Int))))))) N (p0, v2, 1))
    (BK N p0 p1 j2 n2 (IntKind.wrap .i64 (v2 + 1))))
   (j2 ())
def CG (N : Nat) (p0 : List Ae) (p1 : (Ae × Ae) → Option Bool) : Option (Nat × (List Ae)) :=
 AR ((decide ((p0.length : Int) < 2)))
  (some (p0.length, p0))
  (BK N p0 p1 (fun (_ : Unit) =>
   some (p0.length, p0)) N 1)
def E2 (N : Nat) (p0 : Ae) (p1 : Ae) : Option Bool :=
 (DI N p0 p1).bind fun v1 =>
 some ((v1 == 0))
def ED (N : Nat) (p0 : Ai) (v1 : (List Ae) × Int × Int) (j3 : ((List Ae)) → Option ((List Ae) × Int)) : Nat → ((List Ae) × Int) → Option ((List Ae) × Int)
 | 0, _ => none
 | n3 + 1, v3 =>
  AR ((decide (v3.2 < (v1.1.length : Int))))
   ((A7 v1.1 v3.2).bind fun v6 =>
   (Ge N p0 v6).bind fun v7 =>
   AR ((v7.2 != 0))
    (some (([] : List Ae), v7.2))
    ((Ej (v3.1.length + v7.1.length ≤ Fz)).bind fun _ =>
    ED N p0 v1 j3 n3 (v3.1 ++ v7.1, (IntKind.wrap .i64 (v3.2 + 1)))))
   (j3 v3.1)
def GW (N : Nat) (p0 : Ai) (p1 : List Av) : Option ((List Ae) × Int) :=
 (GB N p0 p1).bind fun v1 =>
 AR ((v1.2.2 != 0))
  (some (([] : List Ae), v1.2.2))
  (ED N p0 v1 (fun (v4 : (List Ae)) =>
   (Ci N v4 ((fun (x : Ae × Ae) => DI N x.1 x.2))).bind fun v10 =>
   (CG N v10 ((fun (x : Ae × Ae) => E2 N x.1 x.2))).bind fun v11 =>
   (Ej (v11.1 ≤ v11.2.length)).bind fun _ =>
   some (v11.2.take v11.1, 0)) N (([] : List Ae), 0))
def E0 (N : Nat) (p0 : Ai) (v1 : (List Ae) × Int × Int) (j3 : Unit → Option (Bool × Int)) : Nat → Int → Option (Bool × Int)
 | 0, _ => none
 | n3 + 1, v3 =>
  AR ((decide (v3 < (v1.1.length : Int))))
   ((A7 v1.1 v3).bind fun v6 =>
   (E6 N p0 v6).bind fun v7 =>
   Bi (fun (v8 : Bool) =>
    AR v8
     (some (false, v7.2))
     (E0 N p0 v1 j3 n3 (IntKind.wrap .i64 (v3 + 1))))
   fun j8 =>
   AR ((v7.2 != 0))
    (j8 true)
    (j8 (!v7.1)))
   (j3 ())
def Hh (N : Nat) (p0 : Ai) (p1 : List Av) : Option (Bool × Int) :=
 (GB N p0 p1).bind fun v1 =>
 AR ((v1.2.2 != 0))
  (some (false, v1.2.2))
  (E0 N p0 v1 (fun (_ : Unit) =>
   some (true, 0)) N 0)
def Dk (N : Nat) : Option Bool :=
 (Ch N false).bind fun v1 =>
 (Fj N v1).bind fun v2 =>
 (Ch N true).bind fun v3 =>
 (Fj N v3).bind fun v4 =>
 (Ch N false).bind fun v5 =>
 (Hn N v5 (([1, 2, 3] : List Int))).bind fun v6 =>
 (Ch N false).bind fun v7 =>
 (GW N v7 (([(Av.mk 1 0 1)] : List Av))).bind fun v8 =>
 (Ch N false).bind fun v9 =>
 (Hh N v9 (([(Av.mk 1 0 1)] : List Av))).bind fun v10 =>
 Bi (fun (v11 : Bool) =>
  some v11)
 fun j11 =>
 AR ((v2.2 == 0))
  (AR ((v4.2 == 0))
   (AR ((v6.2 == 0))
    (AR ((v8.2 == 0))
     (AR ((v10.2 == 0))
      (AR (((v2.1.length : Int) == 1))
       (AR (((v4.1.length : Int) == 4))
        (AR (((v6.1.length : Int) == 0))
         (AR (((v8.1.length : Int) == 2))
          (j11 (!v10.1))
          (j11 false))
         (j11 false))
        (j11 false))
       (j11 false))
      (j11 false))
     (j11 false))
    (j11 false))
   (j11 false))
  (j11 false)
def DJ (_ : Nat) (p0 : Ae) : Option Bool :=
 Bi (fun (v1 : Bool) =>
  some v1)
 fun j1 =>
 AR ((decide ((p0.fBase.length : Int) ≤ 8)))
  (AR ((decide ((p0.fNext.length : Int) ≤ 8)))
   (j1 (decide ((p0.fHeld.length : Int) ≤ 14)))
   (j1 false))
  (j1 false)
def B2 (_ : Nat) (p0 : List Ae) : Option ((List Ae)) :=
 (Ej ((([] : List Ae)).length + p0.length ≤ Fz)).bind fun _ =>
 some ((([] : List Ae)) ++ p0)
def CB (N : Nat) (p0 : Ai) (p1 : List Ae) (j3 : Unit → Option ((List Int) × Int)) : Nat → Int → Option ((List Int) × Int)
 | 0, _ => none
 | n3 + 1, v3 =>
  AR ((decide (v3 < (p1.length : Int))))
   ((A7 p1 v3).bind fun v6 =>
   (DC N p0 v6).bind fun v7 =>
   AR ((v7 != 0))
    (some (([] : List Int), v7))
    (CB N p0 p1 j3 n3 (IntKind.wrap .i64 (v3 + 1))))
   (j3 ())
def B5 (N : Nat) (v10 : (List Int) × Int) (v13 : Ae) (j14 : ((List Int)) → Option ((List Int) × Int)) : Nat → ((List Int) × Int) → Option ((List Int) × Int)
 | 0, _ => none
 | n14 + 1, v14 =>
  AR ((decide (v14.2 < (v10.1.length : Int))))
   (Bi (fun (v17 : (List Int)) =>
    B5 N v10 v13 j14 n14 (v17, (IntKind.wrap .i64 (v14.2 + 1))))
   fun j17 =>
   (A7 v14.1 v14.2).bind fun v18 =>
   (A7 v13.fBase v14.2).bind fun v19 =>
   (Ej (0 ≤ v19)).bind fun _ =>
   (A7 v14.1 v14.2).bind fun _ =>
   (A7 v13.fNext v14.2).bind fun v22 =>
   AR ((decide (0 ≤ v22)))
    ((A7 (v14.1.set ((v14.2).toNat) ((IT .u8 v18 ((Cn .u8 1 v19))))) v14.2).bind fun v24 =>
    (A7 v13.fNext v14.2).bind fun v25 =>
    (Ej (0 ≤ v25)).bind fun _ =>
    (A7 (v14.1.set ((v14.2).toNat) ((IT .u8 v18 ((Cn .u8 1 v19))))) v14.2).bind fun _ =>
    j17 ((v14.1.set ((v14.2).toNat) ((IT .u8 v18 ((Cn .u8 1 v19))))).set ((v14.2).toNat) ((IT .u8 v24 ((Cn .u8 1 v25))))))
    (j17 (v14.1.set ((v14.2).toNat) ((IT .u8 v18 ((Cn .u8 1 v19)))))))
   (j14 v14.1)
def B6 (N : Nat) (p1 : List Ae) (j10 : ((List Int)) → Option ((List Int) × Int)) : Nat → ((List Int) × Int) → Option ((List Int) × Int)
 | 0, _ => none
 | n10 + 1, v10 =>
  AR ((decide (v10.2 < (p1.length : Int))))
   ((A7 p1 v10.2).bind fun v13 =>
   B5 N v10 v13 (fun (v15 : (List Int)) =>
    B6 N p1 j10 n10 (v15, (IntKind.wrap .i64 (v10.2 + 1)))) N (v10.1, 0))
   (j10 v10.1)
def D0 (N : Nat) (p0 : Ai) (p1 : List Ae) : Option ((List Int) × Int) :=
 (Cr N p0).bind fun v1 =>
 AR ((v1 != 0))
  (some (([] : List Int), v1))
  (CB N p0 p1 (fun (_ : Unit) =>
   (Ej ((0 : Int) ≤ (p0.fVersions.length : Int) ∧ (p0.fVersions.length : Int) ≤ (p0.fVersions.length : Int) ∧ (p0.fVersions.length : Int) ≤ (Fz : Int))).bind fun _ =>
   B6 N p1 (fun (v11 : (List Int)) =>
    some (v11, 0)) N (List.replicate ((p0.fVersions.length : Int)).toNat ((0 : Int)), 0)) N 0)
def BX (N : Nat) (p0 : List (List Bool)) (p1 : Int) (p2 : Int) (j2 : Unit → Option Bool) : Nat → Int → Option Bool
 | 0, _ => none
 | n2 + 1, v2 =>
  AR ((decide (v2 < p1)))
   ((A7 p0 v2).bind fun v5 =>
   AR (((v5.length : Int) != p2))
    (some false)
    (BX N p0 p1 p2 j2 n2 (IntKind.wrap .i64 (v2 + 1))))
   (j2 ())
def CM (N : Nat) (p0 : List (List Bool)) (p1 : Int) (p2 : Int) : Option Bool :=
 AR (((p0.length : Int) != p1))
  (some false)
  (BX N p0 p1 p2 (fun (_ : Unit) =>
   some true) N 0)
def BC (N : Nat) (p1 : AG) (j22 : Unit → Option Int) : Nat → Int → Option Int
 | 0, _ => none
 | n22 + 1, v22 =>
  AR ((decide (v22 < (p1.fRewrite.length : Int))))
   ((A7 p1.fRewrite v22).bind fun v25 =>
   (A7 v25 v22).bind fun v26 =>
   AR ((!v26))
    (some 1)
    (BC N p1 j22 n22 (IntKind.wrap .i64 (v22 + 1))))
   (j22 ())
def Di (N : Nat) (p0 : Ai) (p1 : AG) : Option Int :=
 Bi (fun (v1 : Bool) =>
  AR v1
   (some 1)
   (Bi (fun (v7 : Bool) =>
    AR v7
     (some 4)
     ((A7 p0.fVersions p1.fFrom).bind fun v12 =>
     (A7 p0.fVersions p1.fTo).bind fun v13 =>
     (CM N p1.fOK v12 v13).bind fun v14 =>
     AR ((!v14))
      (some 6)
      (AR ((p1.fKind != 4))
       (AR (((p1.fRewrite.length : Int) != 0))
        (some 6)
        (some 0))
       ((A7 p0.fVersions p1.fFrom).bind fun v18 =>
       (A7 p0.fVersions p1.fFrom).bind fun v19 =>
       (CM N p1.fRewrite v18 v19).bind fun v20 =>
       AR ((!v20))
        (some 6)
        (BC N p1 (fun (_ : Unit) =>
         some 0) N 0)))))
   fun j7 =>
   AR ((decide (p1.fFrom < 0)))
    (j7 true)
    (AR ((decide ((p0.fVersions.length : Int) ≤ p1.fFrom)))
     (j7 true)
     (AR ((decide (p1.fTo < 0)))
      (j7 true)
      (j7 (decide ((p0.fVersions.length : Int) ≤ p1.fTo)))))))
 fun j1 =>
 AR ((decide (p1.fKind < 1)))
  (j1 true)
  (AR ((decide (4 < p1.fKind)))
   (j1 true)
   (AR p1.fAware
    ((Bo N p1).bind fun v5 =>
    j1 v5)
    (j1 false)))
def A0 (N : Nat) (p0 : Ai) (j7 : Unit → Option Int) : Nat → Int → Option Int
 | 0, _ => none
 | n7 + 1, v7 =>
  AR ((decide (v7 < (p0.fVersions.length : Int))))
   ((A7 p0.fVersions v7).bind fun v10 =>
   Bi (fun (v11 : Bool) =>
    AR v11
     (some 7)
     (A0 N p0 j7 n7 (IntKind.wrap .i64 (v7 + 1))))
   fun j11 =>
   AR ((decide (v10 < 1)))
    (j11 true)
    (AR ((decide (6 < v10)))
     (j11 true)
     ((A7 p0.fNow v7).bind fun v14 =>
     AR ((decide (v14 < 0)))
      (j11 true)
      ((A7 p0.fNow v7).bind fun v16 =>
      AR ((decide (v10 ≤ v16)))
       (j11 true)
       ((A7 p0.fTarget v7).bind fun v18 =>
       AR ((decide (v18 < 0)))
        (j11 true)
        ((A7 p0.fTarget v7).bind fun v20 =>
        j11 (decide (v10 ≤ v20))))))))
   (j7 ())
def AW (N : Nat) (p0 : Ai) (j22 : Unit → Option Int) : Nat → Int → Option Int
 | 0, _ => none
 | n22 + 1, v22 =>
  AR ((decide (v22 < (p0.fTables.length : Int))))
   ((A7 p0.fTables v22).bind fun v25 =>
   (Di N p0 v25).bind fun v26 =>
   AR ((v26 != 0))
    (some v26)
    (AW N p0 j22 n22 (IntKind.wrap .i64 (v22 + 1))))
   (j22 ())
def B0 (N : Nat) (p0 : Ai) : Option Int :=
 Bi (fun (v1 : Bool) =>
  AR v1
   (some 3)
   (Bi (fun (v4 : Bool) =>
    AR v4
     (some 6)
     (A0 N p0 (fun (_ : Unit) =>
      AW N p0 (fun (_ : Unit) =>
       some 0) N 0) N 0))
   fun j4 =>
   AR (((p0.fNow.length : Int) != (p0.fVersions.length : Int)))
    (j4 true)
    (j4 ((p0.fTarget.length : Int) != (p0.fVersions.length : Int)))))
 fun j1 =>
 AR ((decide (6 < (p0.fVersions.length : Int))))
  (j1 true)
  (j1 (decide (12 < (p0.fTables.length : Int))))
def Cj (_ : Nat) (p0 : Ae) (p1 : Int) : Option Int :=
 (A7 p0.fBase p1).bind fun v1 =>
 (Ej (0 ≤ v1)).bind fun _ =>
 Bi (fun (v3 : Int) =>
  some v3)
 fun j3 =>
 (A7 p0.fNext p1).bind fun v4 =>
 AR ((decide (0 ≤ v4)))
  ((A7 p0.fNext p1).bind fun v6 =>
  (Ej (0 ≤ v6)).bind fun _ =>
  j3 (IT .u8 ((Cn .u8 1 v1)) ((Cn .u8 1 v6))))
  (j3 (Cn .u8 1 v1))
def BN (N : Nat) (p0 : Ai) (p1 : Ae) (j7 : Unit → Option Int) : Nat → Int → Option Int
 | 0, _ => none
 | n7 + 1, v7 =>
  AR ((decide (v7 < (p0.fVersions.length : Int))))
   (Bi (fun (v10 : Bool) =>
    AR v10
     (some 7)
     ((A7 p1.fBase v7).bind fun v21 =>
     (A7 p1.fNext v7).bind fun v22 =>
     AR ((v21 == v22))
      (some 1)
      (BN N p0 p1 j7 n7 (IntKind.wrap .i64 (v7 + 1)))))
   fun j10 =>
   (A7 p1.fBase v7).bind fun v11 =>
   AR ((decide (v11 < 0)))
    (j10 true)
    ((A7 p1.fBase v7).bind fun v13 =>
    (A7 p0.fVersions v7).bind fun v14 =>
    AR ((decide (v14 ≤ v13)))
     (j10 true)
     ((A7 p1.fNext v7).bind fun v16 =>
     AR ((decide (v16 < (-1))))
      (j10 true)
      ((A7 p1.fNext v7).bind fun v18 =>
      (A7 p0.fVersions v7).bind fun v19 =>
      j10 (decide (v19 ≤ v18))))))
   (j7 ())
def BB (N : Nat) (p0 : Ai) (p1 : Ae) (j24 : Unit → Option Int) : Nat → Int → Option Int
 | 0, _ => none
 | n24 + 1, v24 =>
  AR ((decide (v24 < (p0.fTables.length : Int))))
   ((A7 p0.fTables v24).bind fun v27 =>
   (A7 p0.fVersions v27.fFrom).bind fun v28 =>
   (Ej (0 ≤ v28)).bind fun _ =>
   Bi (fun (v30 : Bool) =>
    AR v30
     (some 1)
     (BB N p0 p1 j24 n24 (IntKind.wrap .i64 (v24 + 1))))
   fun j30 =>
   (Bo N v27).bind fun v31 =>
   AR ((!v31))
    ((A7 p1.fHeld v24).bind fun v33 =>
    AR ((v33 != 0))
     (j30 true)
     ((Bo N v27).bind fun v35 =>
     AR v35
      ((A7 p1.fHeld v24).bind fun v37 =>
      AR (((C3 .u8 v37 ((IntKind.wrap .u8 ((Cn .u8 1 v28) - 1)))) != 0))
       (j30 true)
       ((Cj N p1 v27.fFrom).bind fun v39 =>
       (A7 p1.fHeld v24).bind fun v40 =>
       j30 ((C3 .u8 v39 v40) != 0)))
      (j30 false)))
    ((Bo N v27).bind fun v41 =>
    AR v41
     ((A7 p1.fHeld v24).bind fun v43 =>
     AR (((C3 .u8 v43 ((IntKind.wrap .u8 ((Cn .u8 1 v28) - 1)))) != 0))
      (j30 true)
      ((Cj N p1 v27.fFrom).bind fun v45 =>
      (A7 p1.fHeld v24).bind fun v46 =>
      j30 ((C3 .u8 v45 v46) != 0)))
     (j30 false)))
   (j24 ())
def Dn (N : Nat) (p0 : Ai) (p1 : Ae) : Option Int :=
 (B0 N p0).bind fun v1 =>
 AR ((v1 != 0))
  (some v1)
  (Bi (fun (v3 : Bool) =>
   AR v3
    (some 6)
    (BN N p0 p1 (fun (_ : Unit) =>
     BB N p0 p1 (fun (_ : Unit) =>
      some 0) N 0) N 0))
  fun j3 =>
  AR (((p1.fBase.length : Int) != (p0.fVersions.length : Int)))
   (j3 true)
   (AR (((p1.fNext.length : Int) != (p0.fVersions.length : Int)))
    (j3 true)
    (j3 ((p1.fHeld.length : Int) != (p0.fTables.length : Int)))))
def BJ (N : Nat) (p0 : Ai) (p1 : List Ae) (j3 : Unit → Option ((List Int) × Int)) : Nat → Int → Option ((List Int) × Int)
 | 0, _ => none
 | n3 + 1, v3 =>
  AR ((decide (v3 < (p1.length : Int))))
   ((A7 p1 v3).bind fun v6 =>
   (Dn N p0 v6).bind fun v7 =>
   AR ((v7 != 0))
    (some (([] : List Int), v7))
    (BJ N p0 p1 j3 n3 (IntKind.wrap .i64 (v3 + 1))))
   (j3 ())
def Bh (N : Nat) (p1 : List Ae) (v10 : (List Int) × Int) (j13 : ((List Int)) → Option ((List Int) × Int)) : Nat → ((List Int) × Int) → Option ((List Int) × Int)
 | 0, _ => none
 | n13 + 1, v13 =>
  AR ((decide (v13.2 < (v13.1.length : Int))))
   ((A7 v13.1 v13.2).bind fun v16 =>
   (A7 p1 v10.2).bind fun v17 =>
   (Cj N v17 v13.2).bind fun v18 =>
   (A7 v13.1 v13.2).bind fun _ =>
   Bh N p1 v10 j13 n13 (v13.1.set ((v13.2).toNat) ((IT .u8 v16 v18)), (IntKind.wrap .i64 (v13.2 + 1))))
   (j13 v13.1)
def Bx (N : Nat) (p1 : List Ae) (j10 : ((List Int)) → Option ((List Int) × Int)) : Nat → ((List Int) × Int) → Option ((List Int) × Int)
 | 0, _ => none
 | n10 + 1, v10 =>
  AR ((decide (v10.2 < (p1.length : Int))))
   (Bh N p1 v10 (fun (v14 : (List Int)) =>
    Bx N p1 j10 n10 (v14, (IntKind.wrap .i64 (v10.2 + 1)))) N (v10.1, 0))
   (j10 v10.1)
def CU (N : Nat) (p0 : Ai) (p1 : List Ae) : Option ((List Int) × Int) :=
 (B0 N p0).bind fun v1 =>
 AR ((v1 != 0))
  (some (([] : List Int), v1))
  (BJ N p0 p1 (fun (_ : Unit) =>
   (Ej ((0 : Int) ≤ (p0.fVersions.length : Int) ∧ (p0.fVersions.length : Int) ≤ (p0.fVersions.length : Int) ∧ (p0.fVersions.length : Int) ≤ (Fz : Int))).bind fun _ =>
   Bx N p1 (fun (v11 : (List Int)) =>
    some (v11, 0)) N (List.replicate ((p0.fVersions.length : Int)).toNat ((0 : Int)), 0)) N 0)
def AZ (N : Nat) (p0 : List Int) (p1 : List Int) (j2 : Unit → Option Bool) : Nat → Int → Option Bool
 | 0, _ => none
 | n2 + 1, v2 =>
  AR ((decide (v2 < (p0.length : Int))))
   ((A7 p0 v2).bind fun v5 =>
   (A7 p1 v2).bind fun v6 =>
   AR ((v5 != v6))
    (some false)
    (AZ N p0 p1 j2 n2 (IntKind.wrap .i64 (v2 + 1))))
   (j2 ())
def B1 (N : Nat) (p0 : List Int) (p1 : List Int) : Option Bool :=
 AR (((p0.length : Int) != (p1.length : Int)))
  (some false)
  (AZ N p0 p1 (fun (_ : Unit) =>
   some true) N 0)
def Bt (N : Nat) (p1 : List Ae) (j8 : Unit → Option Bool) : Nat → Int → Option Bool
 | 0, _ => none
 | n8 + 1, v8 =>
  AR ((decide (v8 < (p1.length : Int))))
   ((A7 p1 v8).bind fun v11 =>
   (DJ N v11).bind fun v12 =>
   AR ((!v12))
    (some true)
    (Bt N p1 j8 n8 (IntKind.wrap .i64 (v8 + 1))))
   (j8 ())
def Cp (N : Nat) (p0 : Ce) (p1 : List Ae) : Option Bool :=
 (DT N p0).bind fun v1 =>
 Bi (fun (v2 : Bool) =>
  AR v2
   ((Dk N).bind fun v7 =>
   some v7)
   (Bt N p1 (fun (_ : Unit) =>
    (B2 N p1).bind fun v14 =>
    (D0 N v1.1 v14).bind fun v15 =>
    (CU N v1.1 p1).bind fun v16 =>
    Bi (fun (v17 : Bool) =>
     some v17)
    fun j17 =>
    AR ((v15.2 == v16.2))
     ((B1 N v15.1 v16.1).bind fun v19 =>
     j17 v19)
     (j17 false)) N 0))
 fun j2 =>
 (Dk N).bind fun v3 =>
 AR ((!v3))
  (j2 true)
  (AR ((!v1.2))
   (j2 true)
   (j2 (decide (6 < (p1.length : Int)))))
def KY {α : Type} (w : α → Prop) (xs : List α) : Prop := ∀ x, x ∈ xs → w x
def PX (n : Int) : Prop := (Lit.int .i64 n).wf = true
def J9 (n : Int) : Prop := (Lit.int .u8 n).wf = true
def QW (n : Int) : Prop := (Lit.int .u16 n).wf = true
def F5 (x : Gr) : Prop := J9 x.fKind ∧ J9 x.fFrom ∧ J9 x.fTo ∧ (fun _ => True) x.fAware ∧ QW x.fBad ∧ QW x.fLost ∧ True
def Ey (x : Ce) : Prop := (KY J9) x.fVersions ∧ (KY J9) x.fNow ∧ (KY J9) x.fTarget ∧ (KY F5) x.fLinks ∧ True
def Ke (x : Ae) : Prop := (KY PX) x.fBase ∧ (KY PX) x.fNext ∧ (KY J9) x.fHeld ∧ True
end Go.Lift

/- That the code does what the shallow programs do, function by function. Written by a program (gen.py). -/
namespace Go.Lift
open Go.RowKit
open Go.Proofs
theorem Ac : Try.prog.follows .mixedOrders = true := by kernel_rfl
theorem NO : Ep Try.prog 101 true = true := by kernel_rfl
theorem KJ : Ep Try.prog 135 false = true := by kernel_rfl
theorem Bp : Ep Try.prog 22 false = true := by kernel_rfl
theorem H9 : Ep Try.prog 23 false = true := by kernel_rfl
theorem DO : Ep Try.prog 25 true = true := by kernel_rfl
theorem CO : Ep Try.prog 3 false = true := by kernel_rfl
theorem Pg : Ep Try.prog 39 false = true := by kernel_rfl
theorem P7 : Ep Try.prog 4 false = true := by kernel_rfl
theorem Hk : Ep Try.prog 40 false = true := by kernel_rfl
theorem AU : Ep Try.prog 42 true = true := by kernel_rfl
theorem QZ : Ep Try.prog 49 false = true := by kernel_rfl
theorem Ro : Ep Try.prog 5 false = true := by kernel_rfl
theorem SD : Ep Try.prog 51 true = true := by kernel_rfl
theorem HM : Ep Try.prog 57 false = true := by kernel_rfl
theorem Jg : Ep Try.prog 60 false = true := by kernel_rfl
theorem GY : Ep Try.prog 62 true = true := by kernel_rfl
theorem IA : Ep Try.prog 65 true = true := by kernel_rfl
theorem N6 : Ep Try.prog 66 false = true := by kernel_rfl
theorem Sj : Ep Try.prog 82 false = true := by kernel_rfl
theorem SH : Ep Try.prog 84 true = true := by kernel_rfl
theorem RB : L8 Try.prog 39 = true := by kernel_rfl
theorem OM : EJ Try.prog 101 24 = true := by kernel_rfl
theorem NW : EJ Try.prog 3 8 = true := by kernel_rfl
theorem QU : EJ Try.prog 4 1 = true := by kernel_rfl
theorem Lc : EJ Try.prog 42 72 = true := by kernel_rfl
theorem RC : EJ Try.prog 5 1 = true := by kernel_rfl
theorem NC : EJ Try.prog 57 1 = true := by kernel_rfl
theorem RF : EJ Try.prog 62 80 = true := by kernel_rfl
theorem Mj : EJ Try.prog 65 24 = true := by kernel_rfl
theorem RK : EJ Try.prog 66 24 = true := by kernel_rfl
theorem Bv : CZ Try.prog 25 0 0 = true := by kernel_rfl
theorem Gg : CZ Try.prog 25 1 1 = true := by kernel_rfl
theorem HJ : CZ Try.prog 25 2 2 = true := by kernel_rfl
theorem Dx : CZ Try.prog 25 3 3 = true := by kernel_rfl
theorem Da : CZ Try.prog 42 0 0 = true := by kernel_rfl
theorem Cu : CZ Try.prog 42 1 1 = true := by kernel_rfl
theorem Df : CZ Try.prog 42 2 2 = true := by kernel_rfl
theorem L1 : CZ Try.prog 51 0 0 = true := by kernel_rfl
theorem PN : CZ Try.prog 51 1 1 = true := by kernel_rfl
theorem P2 : CZ Try.prog 51 2 2 = true := by kernel_rfl
theorem L3 : CZ Try.prog 51 3 3 = true := by kernel_rfl
theorem ES : CZ Try.prog 62 0 0 = true := by kernel_rfl
theorem Dq : CZ Try.prog 62 1 1 = true := by kernel_rfl
theorem H2 : CZ Try.prog 62 2 2 = true := by kernel_rfl
theorem Iw : CZ Try.prog 62 3 3 = true := by kernel_rfl
theorem I6 : CZ Try.prog 62 4 4 = true := by kernel_rfl
theorem FD : CZ Try.prog 62 5 5 = true := by kernel_rfl
theorem HN : CZ Try.prog 65 0 0 = true := by kernel_rfl
theorem Ff : CZ Try.prog 65 1 1 = true := by kernel_rfl
theorem Iv : CZ Try.prog 65 2 2 = true := by kernel_rfl
theorem Pr : CZ Try.prog 84 0 0 = true := by kernel_rfl
theorem PD : CZ Try.prog 84 1 1 = true := by kernel_rfl
theorem P3 : CZ Try.prog 84 2 2 = true := by kernel_rfl
theorem PH : CZ Try.prog 84 3 3 = true := by kernel_rfl
theorem Po : CZ Try.prog 84 4 4 = true := by kernel_rfl
theorem Qg : CZ Try.prog 84 5 5 = true := by kernel_rfl
theorem RA : AE Try.prog 10 = true := by kernel_rfl
theorem RZ : AE Try.prog 100 = true := by kernel_rfl
theorem RW : AE Try.prog 101 = true := by kernel_rfl
theorem Sc : AE Try.prog 102 = true := by kernel_rfl
theorem RU : AE Try.prog 103 = true := by kernel_rfl
theorem Tq : AE Try.prog 11 = true := by kernel_rfl
theorem Sz : AE Try.prog 13 = true := by kernel_rfl
theorem SS : AE Try.prog 15 = true := by kernel_rfl
theorem S4 : AE Try.prog 16 = true := by kernel_rfl
theorem Tx : AE Try.prog 17 = true := by kernel_rfl
theorem Ti : AE Try.prog 18 = true := by kernel_rfl
theorem S3 : AE Try.prog 19 = true := by kernel_rfl
theorem Ty : AE Try.prog 20 = true := by kernel_rfl
theorem OE : AE Try.prog 21 = true := by kernel_rfl
theorem Ru : AE Try.prog 22 = true := by kernel_rfl
theorem Rv : AE Try.prog 23 = true := by kernel_rfl
theorem R9 : AE Try.prog 24 = true := by kernel_rfl
theorem Qz : AE Try.prog 25 = true := by kernel_rfl
theorem SR : AE Try.prog 26 = true := by kernel_rfl
theorem S7 : AE Try.prog 27 = true := by kernel_rfl
theorem QB : AE Try.prog 28 = true := by kernel_rfl
theorem Rz : AE Try.prog 29 = true := by kernel_rfl
theorem QH : AE Try.prog 30 = true := by kernel_rfl
theorem Sl : AE Try.prog 31 = true := by kernel_rfl
theorem QQ : AE Try.prog 32 = true := by kernel_rfl
theorem OV : AE Try.prog 33 = true := by kernel_rfl
theorem RO : AE Try.prog 35 = true := by kernel_rfl
theorem OR : AE Try.prog 36 = true := by kernel_rfl
theorem RN : AE Try.prog 37 = true := by kernel_rfl
theorem SM : AE Try.prog 38 = true := by kernel_rfl
theorem Q2 : AE Try.prog 39 = true := by kernel_rfl
theorem R4 : AE Try.prog 40 = true := by kernel_rfl
theorem RI : AE Try.prog 41 = true := by kernel_rfl
theorem ST : AE Try.prog 42 = true := by kernel_rfl
theorem O7 : AE Try.prog 43 = true := by kernel_rfl
theorem R2 : AE Try.prog 44 = true := by kernel_rfl
theorem QO : AE Try.prog 45 = true := by kernel_rfl
theorem So : AE Try.prog 46 = true := by kernel_rfl
theorem Tt : AE Try.prog 47 = true := by kernel_rfl
theorem Sg : AE Try.prog 48 = true := by kernel_rfl
theorem SJ : AE Try.prog 49 = true := by kernel_rfl
theorem TC : AE Try.prog 5 = true := by kernel_rfl
theorem Tp : AE Try.prog 50 = true := by kernel_rfl
theorem To : AE Try.prog 51 = true := by kernel_rfl
theorem Tk : AE Try.prog 52 = true := by kernel_rfl
theorem P5 : AE Try.prog 53 = true := by kernel_rfl
theorem Te : AE Try.prog 54 = true := by kernel_rfl
theorem QG : AE Try.prog 55 = true := by kernel_rfl
theorem QS : AE Try.prog 56 = true := by kernel_rfl
theorem SF : AE Try.prog 59 = true := by kernel_rfl
theorem TE : AE Try.prog 6 = true := by kernel_rfl
theorem Rw : AE Try.prog 60 = true := by kernel_rfl
theorem RQ : AE Try.prog 61 = true := by kernel_rfl
theorem S6 : AE Try.prog 62 = true := by kernel_rfl
theorem Tr : AE Try.prog 63 = true := by kernel_rfl
theorem Sy : AE Try.prog 64 = true := by kernel_rfl
theorem Tz : AE Try.prog 65 = true := by kernel_rfl
theorem Tj : AE Try.prog 66 = true := by kernel_rfl
theorem TB : AE Try.prog 67 = true := by kernel_rfl
theorem SK : AE Try.prog 68 = true := by kernel_rfl
theorem SB : AE Try.prog 69 = true := by kernel_rfl
theorem SO : AE Try.prog 70 = true := by kernel_rfl
theorem S1 : AE Try.prog 71 = true := by kernel_rfl
theorem S5 : AE Try.prog 72 = true := by kernel_rfl
theorem S8 : AE Try.prog 73 = true := by kernel_rfl
theorem SI : AE Try.prog 74 = true := by kernel_rfl
theorem Th : AE Try.prog 75 = true := by kernel_rfl
theorem SX : AE Try.prog 76 = true := by kernel_rfl
theorem Tg : AE Try.prog 77 = true := by kernel_rfl
theorem RJ : AE Try.prog 78 = true := by kernel_rfl
theorem S9 : AE Try.prog 79 = true := by kernel_rfl
theorem TI : AE Try.prog 8 = true := by kernel_rfl
theorem RE : AE Try.prog 80 = true := by kernel_rfl
theorem SC : AE Try.prog 81 = true := by kernel_rfl
theorem Tv : AE Try.prog 82 = true := by kernel_rfl
theorem SZ : AE Try.prog 83 = true := by kernel_rfl
theorem Ry : AE Try.prog 84 = true := by kernel_rfl
theorem SA : AE Try.prog 85 = true := by kernel_rfl
theorem Tm : AE Try.prog 86 = true := by kernel_rfl
theorem Q9 : AE Try.prog 87 = true := by kernel_rfl
theorem Rt : AE Try.prog 88 = true := by kernel_rfl
theorem RV : AE Try.prog 89 = true := by kernel_rfl
theorem TG : AE Try.prog 9 = true := by kernel_rfl
theorem Sm : AE Try.prog 90 = true := by kernel_rfl
theorem Tn : AE Try.prog 91 = true := by kernel_rfl
theorem SV : AE Try.prog 92 = true := by kernel_rfl
theorem Tc : AE Try.prog 93 = true := by kernel_rfl
theorem SQ : AE Try.prog 94 = true := by kernel_rfl
theorem Tf : AE Try.prog 95 = true := by kernel_rfl
theorem Tb : AE Try.prog 96 = true := by kernel_rfl
theorem SE : AE Try.prog 97 = true := by kernel_rfl
theorem Q4 : AE Try.prog 98 = true := by kernel_rfl
theorem Si : AE Try.prog 99 = true := by kernel_rfl
theorem ME : KR Try.prog 119 .u32 = true := by kernel_rfl
theorem Qj : KR Try.prog 121 .u64 = true := by kernel_rfl
theorem Rq : KR Try.prog 135 .u64 = true := by kernel_rfl
theorem O1 : KR Try.prog 3 .i64 = true := by kernel_rfl
theorem Sq : KR Try.prog 5 .u8 = true := by kernel_rfl
theorem NT : KR Try.prog 96 .u64 = true := by kernel_rfl
theorem Ra : Try.prog.underlying 9 = some .string := by kernel_rfl
theorem NB : Try.prog.underlying 77 = some (.map 9 4) := by kernel_rfl
theorem Nt : Hb Try.prog 101 = some [(0, 1), (1, 1), (2, 1)] := by kernel_rfl
theorem Sa : Hb Try.prog 25 = some [(0, 1), (1, 1), (2, 1), (3, 1)] := by kernel_rfl
theorem KX : Hb Try.prog 42 = some [(0, 1), (1, 1), (2, 1)] := by kernel_rfl
theorem RX : Hb Try.prog 62 = some [(0, 1), (1, 1), (2, 1), (3, 1), (4, 1), (5, 1)] := by kernel_rfl
theorem Qf : Hb Try.prog 65 = some [(0, 1), (1, 1), (2, 1)] := by kernel_rfl
theorem Ii : sliceB Try.prog 124 101 = true := by kernel_rfl
theorem AJ : sliceB Try.prog 22 3 = true := by kernel_rfl
theorem Ek : sliceB Try.prog 23 62 = true := by kernel_rfl
theorem Dw : sliceB Try.prog 26 65 = true := by kernel_rfl
theorem AD : sliceB Try.prog 31 42 = true := by kernel_rfl
theorem Hc : sliceB Try.prog 39 5 = true := by kernel_rfl
theorem CI : sliceB Try.prog 40 57 = true := by kernel_rfl
theorem OB : sliceB Try.prog 49 84 = true := by kernel_rfl
theorem FF : sliceB Try.prog 60 66 = true := by kernel_rfl
theorem FY : sliceB Try.prog 66 4 = true := by kernel_rfl
theorem MF : (Try.prog.underlying 119).isSome = true := by kernel_rfl
theorem OH : (Try.prog.underlying 121).isSome = true := by kernel_rfl
theorem Q6 : (Try.prog.underlying 3).isSome = true := by kernel_rfl
theorem PT : (Try.prog.underlying 5).isSome = true := by kernel_rfl
theorem Ox : (Try.prog.underlying 96).isSome = true := by kernel_rfl
theorem Pz : Lr Try.prog 9 = true := by kernel_rfl
theorem HE : Gq Try.prog 101 3 = true := by kernel_rfl
theorem NI : Gq Try.prog 135 1 = true := by kernel_rfl
theorem Q7 : Gq Try.prog 22 1 = true := by kernel_rfl
theorem SY : Gq Try.prog 23 1 = true := by kernel_rfl
theorem Dz : Gq Try.prog 25 4 = true := by kernel_rfl
theorem DS : Gq Try.prog 3 1 = true := by kernel_rfl
theorem Ny : Gq Try.prog 4 1 = true := by kernel_rfl
theorem Aw : Gq Try.prog 42 3 = true := by kernel_rfl
theorem Qm : Gq Try.prog 5 1 = true := by kernel_rfl
theorem Tl : Gq Try.prog 51 4 = true := by kernel_rfl
theorem EE : Gq Try.prog 57 1 = true := by kernel_rfl
theorem Rr : Gq Try.prog 60 1 = true := by kernel_rfl
theorem D8 : Gq Try.prog 62 6 = true := by kernel_rfl
theorem Em : Gq Try.prog 65 3 = true := by kernel_rfl
theorem LN : Gq Try.prog 66 1 = true := by kernel_rfl
theorem QK : Gq Try.prog 84 6 = true := by kernel_rfl
theorem IJ : DF Try.prog 101 = some (.agg #[.int .i64 0, .int .i64 0, .int .i64 0]) := by kernel_rfl
theorem R1 : DF Try.prog 135 = some (.int .u64 0) := by kernel_rfl
theorem NR : DF Try.prog 25 = some (.agg #[.slice none 0 0, .slice none 0 0, .slice none 0 0, .slice none 0 0]) := by kernel_rfl
theorem Mm : DF Try.prog 3 = some (.int .i64 0) := by kernel_rfl
theorem PF : DF Try.prog 4 = some (.bool false) := by kernel_rfl
theorem Du : DF Try.prog 42 = some (.agg #[.slice none 0 0, .slice none 0 0, .slice none 0 0]) := by kernel_rfl
theorem Sk : DF Try.prog 5 = some (.int .u8 0) := by kernel_rfl
theorem Om : DF Try.prog 57 = some (.int .u8 0) := by kernel_rfl
theorem Jq : DF Try.prog 62 = some (.agg #[.int .i64 0, .int .i64 0, .int .i64 0, .bool false, .slice none 0 0, .slice none 0 0]) := by kernel_rfl
theorem HK : DF Try.prog 65 = some (.agg #[.int .i64 0, .int .i64 0, .int .i64 0]) := by kernel_rfl
theorem QY : DF Try.prog 66 = some (.slice none 0 0) := by kernel_rfl
theorem SN : DF Try.prog 84 = some (.agg #[.int .u8 0, .int .u8 0, .int .u8 0, .bool false, .int .u16 0, .int .u16 0]) := by kernel_rfl
end Go.Lift

