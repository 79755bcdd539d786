/- Lemmas for MixValidSaid, which YtmmkocokfdheiaaFin7 proves. -/
/- How a law's given inputs are read as trees: what a datum of plain types (numbers, bools, strings, slices and structs of them) is. No condition. -/
import Derived.Test.YtmmkocokfdheiaaLift18
import Derived.ProofKit
namespace Go.Lift
open Go.RowKit Go.ChangeShapes Go.WideShapes

section
variable {P : Program}

def contigB (P : Program) : Nat → List Field → Nat → Bool
  | o, [], n => o == n
  | o, f :: fs, n => f.offset == o && contigB P (o + P.cellsOf f.type) fs n

/-- A plain type, and its leaves lie one behind the other. -/
def plainT (P : Program) : Nat → TypeId → Bool
  | 0, _ => false
  | d + 1, t => match P.underlying t with
    | some (.int _) => true
    | some .bool => true
    | some .string => true
    | some (.slice e) => decide (0 < P.cellsOf e) && plainT P d e
    | some (.struct fs) => contigB P 0 fs.toList (P.cellsOf t) && fs.toList.all fun f => plainT P d f.type
    | _ => false

def FitL (F : TypeId → List T → Prop) : List TypeId → List T → Prop
  | [], ts => ts = []
  | t :: tys, ts => ∃ a b, ts = a ++ b ∧ F t a ∧ FitL F tys b

/-- The trees of a value of a plain type. -/
def FitD (P : Program) : Nat → TypeId → List T → Prop
  | 0, _, _ => False
  | d + 1, t, ts => match P.underlying t with
    | some (.int k) => ∃ n, ts = [.val (.int k n)] ∧ (Lit.int k n).wf = true
    | some .bool => ∃ b, ts = [.val (.bool b)]
    | some .string => ∃ s, ts = [.val (.string s)]
    | some (.slice e) => ∃ rows, ts = [.sl rows] ∧ ∀ row, row ∈ rows → FitD P d e row
    | some (.struct fs) => FitL (FitD P d) (fs.toList.map (·.type)) ts
    | _ => False

def Reads (w : World) (S : Nat → Prop) : List Value → List T → Prop
  | [], [] => True
  | v :: vs, t :: ts => RdT w S v t ∧ Reads w S vs ts
  | _, _ => False

theorem Reads.append {w : World} {S : Nat → Prop} : ∀ {a b : List Value} {x y : List T}, Reads w S a x → Reads w S b y → Reads w S (a ++ b) (x ++ y)
  | [], _, [], _, _, h => h
  | _ :: _, _, _ :: _, _, h1, h2 => ⟨h1.1, Reads.append h1.2 h2⟩
theorem Reads.len {w : World} {S : Nat → Prop} : ∀ {a : List Value} {x : List T}, Reads w S a x → a.length = x.length
  | [], [], _ => rfl
  | _ :: _, _ :: _, h => by simp [h.2.len]
theorem Reads.get {w : World} {S : Nat → Prop} : ∀ {a : List Value} {x : List T}, Reads w S a x → ∀ (j : Nat) (t : T), x[j]? = some t → ∃ v, a[j]? = some v ∧ RdT w S v t
  | [], [], _, j, t, hj => by simp at hj
  | v :: _, _ :: _, h, 0, t, hj => by simp at hj; subst hj; exact ⟨v, rfl, h.1⟩
  | _ :: _, _ :: _, h, j + 1, t, hj => by
    obtain ⟨v, h1, h2⟩ := h.2.get j t (by simpa using hj)
    exact ⟨v, by simpa using h1, h2⟩

theorem exists_list {α : Type} {p : Nat → α → Prop} : ∀ (n : Nat), (∀ i, i < n → ∃ x, p i x) → ∃ l : List α, l.length = n ∧ ∀ i x, l[i]? = some x → p i x
  | 0, _ => ⟨[], rfl, fun i x h => by simp at h⟩
  | n + 1, h => by
    obtain ⟨l, h1, h2⟩ := exists_list n (fun i hi => h i (by omega))
    obtain ⟨x, hx⟩ := h n (by omega)
    refine ⟨l ++ [x], by simp [h1], fun i y hi => ?_⟩
    by_cases hlt : i < l.length
    · rw [List.getElem?_append_left hlt] at hi; exact h2 i y hi
    · rw [List.getElem?_append_right (by omega)] at hi
      have : i - l.length = 0 := by
        have := lt_of_get hi
        simp at this; omega
      rw [this] at hi
      simp at hi; subst hi
      have : i = n := by omega
      subst this; exact hx

theorem mapM_range_get {α : Type} {f : Nat → Option α} : ∀ {n : Nat} {l : List α}, (List.range n).mapM f = some l → l.length = n ∧ ∀ i, i < n → f i = l[i]? := by
  intro n l h
  have h1 := mapM_some_length h
  refine ⟨by simpa using h1, fun i hi => ?_⟩
  exact mapM_some_get h i i (by simp [hi])

theorem cell_inv {w : World} {b o : Nat} {v : Value} (h : w.cell? ⟨b, o, none⟩ = some v) : ∃ arr el fz, w.heap[b]? = some (.cells arr el fz) ∧ arr[o]? = some v := by
  unfold World.cell? at h
  split at h
  · rename_i c el fz hc
    exact ⟨c, el, fz, hc, by simpa using h⟩
  · cases h

theorem heap_lt {w : World} {b : Nat} {o : Obj} (h : w.heap[b]? = some o) : b < w.heap.size := by
  rcases Nat.lt_or_ge b w.heap.size with h1 | h1
  · exact h1
  · rw [Array.getElem?_eq_none h1] at h; cases h

abbrev All (w : World) : Nat → Prop := fun β => β < w.heap.size

theorem rd_fields {H : Type} {enc : TypeId × Value → H} {w : World} {sp : Nat → Bool} {held : Bool} {n d : Nat} {cs : List Value}
    (ih : ∀ (t : TypeId) (cs : List Value) (x : DataW H × List MemPlace), plainT P d t = true → DataW.trod enc P w 0 sp held n t cs = some x → ∃ ts, Reads w (All w) cs ts ∧ FitD P d t ts) :
    ∀ (fs : List Field) (o : Nat), contigB P o fs cs.length = true → (fs.all fun f => plainT P d f.type) = true →
      (∀ f, f ∈ fs → ∃ x, DataW.trod enc P w 0 sp held n f.type ((cs.drop f.offset).take (P.cellsOf f.type)) = some x) →
      ∃ ts, Reads w (All w) (cs.drop o) ts ∧ FitL (FitD P d) (fs.map (·.type)) ts
  | [], o, hc, _, _ => by
    simp only [contigB, beq_iff_eq] at hc
    refine ⟨[], ?_, rfl⟩
    rw [List.drop_eq_nil_of_le (by omega)]; trivial
  | f :: fs, o, hc, hp, hx => by
    simp only [contigB, Bool.and_eq_true, beq_iff_eq] at hc
    simp only [List.all_cons, Bool.and_eq_true] at hp
    obtain ⟨x, hx0⟩ := hx f (by simp)
    rw [hc.1] at hx0
    obtain ⟨ts, h1, h2⟩ := ih _ _ _ hp.1 hx0
    obtain ⟨us, h3, h4⟩ := rd_fields ih fs _ hc.2 hp.2 (fun g hg => hx g (by simp [hg]))
    refine ⟨ts ++ us, ?_, ⟨ts, us, rfl, h2, h4⟩⟩
    have : cs.drop o = (cs.drop o).take (P.cellsOf f.type) ++ cs.drop (o + P.cellsOf f.type) := by
      rw [← List.drop_drop, List.take_append_drop]
    rw [this]
    exact h1.append h3

theorem rd_trod {H : Type} {enc : TypeId × Value → H} {w : World} {sp : Nat → Bool} {held : Bool} : ∀ (d fuel : Nat) (t : TypeId) (cs : List Value) (x : DataW H × List MemPlace), plainT P d t = true → DataW.trod enc P w 0 sp held fuel t cs = some x → ∃ ts, Reads w (All w) cs ts ∧ FitD P d t ts
  | 0, _, _, _, _, hp, _ => by cases hp
  | d + 1, fuel, t, cs, x, hp, hx => by
    unfold plainT at hp
    unfold FitD
    split at hp
    · rename_i k hu
      obtain ⟨n, rfl, _, hw⟩ := DataW.trod_int hu hx
      exact ⟨[.val (.int k n)], ⟨.val _ rfl, trivial⟩, n, rfl, hw⟩
    · rename_i hu
      obtain ⟨b, rfl, _⟩ := DataW.trod_bool hu hx
      exact ⟨[.val (.bool b)], ⟨.val _ rfl, trivial⟩, b, rfl⟩
    · rename_i hu
      obtain ⟨b, rfl, _⟩ := DataW.trod_string hu hx
      exact ⟨[.val (.string b)], ⟨.val _ rfl, trivial⟩, b, rfl⟩
    · rename_i e hu
      simp only [Bool.and_eq_true, decide_eq_true_eq] at hp
      rcases DataW.trod_slice hu hx with ⟨rfl, _⟩ | ⟨a, len, cap, elems, rest, n, rfl, rfl, _, _, hl, _, hlen, hel, _, _⟩
      · exact ⟨[.sl []], ⟨.nil none 0, trivial⟩, [], rfl, fun row h => by cases h⟩
      · have hrow : ∀ i, i < len → ∃ row, ∃ csi, w.cells? 0 (a.add (i * P.cellsOf e)) (P.cellsOf e) = some csi ∧ Reads w (All w) csi row ∧ FitD P d e row := by
          intro i hi
          have h1 := hel i hi
          have h2 : elems[i]? = some (elems[i]'(by omega)) := by simp [show i < elems.length from by omega]
          rw [h2] at h1
          obtain ⟨csi, h3, h4⟩ := Option.bind_eq_some_iff.1 h1
          obtain ⟨row, h5, h6⟩ := rd_trod d n e csi _ hp.2 h4
          exact ⟨row, csi, h3, h5, h6⟩
        obtain ⟨rows, hrl, hrows⟩ := exists_list len hrow
        subst hrl
        refine ⟨[.sl rows], ⟨?_, trivial⟩, rows, rfl, fun row hm => ?_⟩
        · cases hr0 : rows with
          | nil => exact .nil _ _
          | cons r0 rs0 =>
            rw [← hr0]
            have hpos : 0 < rows.length := by rw [hr0]; simp
            -- each cell
            have hcell : ∀ (i : Nat) (row : List T) (j : Nat) (u : T), rows[i]? = some row → row[j]? = some u → j < P.cellsOf e ∧ ∃ v, w.cell? ((a.add (i * P.cellsOf e)).add j) = some v ∧ RdT w (All w) v u := by
              intro i row j u hi hj
              obtain ⟨csi, h1, h2, _⟩ := hrows i row hi
              obtain ⟨v, h3, h4⟩ := h2.get j u hj
              unfold World.cells? at h1
              rw [if_pos (Nat.zero_le _)] at h1
              obtain ⟨h5, h6⟩ := mapM_range_get h1
              have hjl : j < P.cellsOf e := by have := lt_of_get h3; omega
              exact ⟨hjl, v, by rw [h6 j hjl, h3], h4⟩
            have hrlen : ∀ (i : Nat) (row : List T), rows[i]? = some row → row.length = P.cellsOf e := by
              intro i row hi
              obtain ⟨csi, h1, h2, _⟩ := hrows i row hi
              unfold World.cells? at h1
              rw [if_pos (Nat.zero_le _)] at h1
              obtain ⟨h5, _⟩ := mapM_range_get h1
              rw [← h2.len, h5]
            have hget : ∀ i (hi : i < rows.length), rows[i]? = some (rows[i]'hi) := fun i hi => by simp [hi]
            have hr00 := hget 0 hpos
            have hl0 := hrlen 0 _ hr00
            obtain ⟨_, v0, hv0, _⟩ := hcell 0 _ 0 ((rows[0]'hpos)[0]'(by omega)) hr00 (by simp)
            have hadd0 : (a.add (0 * P.cellsOf e)).add 0 = a := by simp [Addr.add]
            rw [hadd0] at hv0
            have hspot := World.cell?_spot hv0
            obtain ⟨β, off, spot⟩ := a
            simp only at hspot
            subst hspot
            obtain ⟨arr, el, fz, hb, _⟩ := cell_inv hv0
            have hadd : ∀ i j : Nat, ((⟨β, off, none⟩ : Addr).add (i * P.cellsOf e)).add j = ⟨β, off + i * P.cellsOf e + j, none⟩ := by
              intro i j
              unfold Addr.add
              split
              · rename_i h1
                split
                · rename_i h2; rw [h2]; simp
                · rename_i h2; simp only [Addr.mk.injEq, true_and, and_true]; omega
              · split <;> simp_all <;> omega
            have hat : ∀ (i : Nat) (row : List T) (j : Nat) (u : T), rows[i]? = some row → row[j]? = some u → off + i * P.cellsOf e + j < arr.size ∧ RdT w (All w) (cellAt arr (off + i * P.cellsOf e + j)) u := by
              intro i row j u hi hj
              obtain ⟨_, v, h1, h2⟩ := hcell i row j u hi hj
              rw [hadd] at h1
              obtain ⟨arr', el', fz', h3, h4⟩ := cell_inv h1
              rw [hb] at h3; cases h3
              have hlt : off + i * P.cellsOf e + j < arr.size := by
                rcases Nat.lt_or_ge (off + i * P.cellsOf e + j) arr.size with h | h
                · exact h
                · rw [Array.getElem?_eq_none h] at h4; cases h4
              refine ⟨hlt, ?_⟩
              have : cellAt arr (off + i * P.cellsOf e + j) = v := by unfold cellAt; rw [h4]; rfl
              rw [this]; exact h2
            refine .sl β off cap (P.cellsOf e) arr el fz rows (heap_lt hb) hb hl ?_ hrlen (fun i row j u hi hj => (hat i row j u hi hj).2)
            have hil := hget (rows.length - 1) (by omega)
            have hll := hrlen _ _ hil
            have h7 := (hat (rows.length - 1) _ (P.cellsOf e - 1) ((rows[rows.length - 1]'(by omega))[P.cellsOf e - 1]'(by omega)) hil (by simp)).1
            have h8 : rows.length * P.cellsOf e = (rows.length - 1) * P.cellsOf e + P.cellsOf e := by
              rw [← Nat.succ_mul]; congr 1; omega
            omega
        · obtain ⟨i, hi⟩ := List.mem_iff_getElem?.1 hm
          obtain ⟨_, _, _, h⟩ := hrows i row hi
          exact h
    · rename_i fs hu
      simp only [Bool.and_eq_true] at hp
      obtain ⟨xs, n, rfl, _, hcl, hxl, hf⟩ := DataW.trod_struct hu hx
      have := rd_fields (enc := enc) (sp := sp) (held := held) (cs := cs) (fun t cs x h1 h2 => rd_trod d n t cs x h1 h2) fs.toList 0 (by rw [hcl]; exact hp.1) hp.2 (fun f hm => by
        obtain ⟨i, hi⟩ := List.mem_iff_getElem?.1 hm
        have hi' : fs[i]? = some f := by simpa using hi
        have h1 := hf i f hi'
        have hlt : i < fs.size := by
          have := lt_of_get hi
          simpa using this
        exact ⟨xs[i]'(by omega), by rw [h1]; simp [show i < xs.length from by omega]⟩)
      simpa using this
    · cases hp
end
end Go.Lift
