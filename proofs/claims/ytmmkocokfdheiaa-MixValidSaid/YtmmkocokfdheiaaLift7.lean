/- Lemmas for MixValidSaid, which YtmmkocokfdheiaaFin7 proves. -/
/- More operations: structs built, slices built, made, cut and appended to. No condition. -/
import Derived.Test.YtmmkocokfdheiaaLift6
namespace Go.Lift
open Go.RowKit

variable {P : Program} {X : Ctx} {ops : Array Oper}

def bytesB (P : Program) (t : TypeId) (n : Nat) : Bool := match P.info? t with | some i => i.bytes == n | none => false

theorem run_typeInfo {t : TypeId} {i : TypeInfo} (h : P.info? t = some i) (w : World) : (typeInfo t).run P w = .ok i w := by
  simp [typeInfo, program, Sem.run, h]

theorem foldl_over (off : Nat) : ∀ (l : List Value) (k : Nat) (arr : Array Value), (l.zipIdx k).foldl (fun cs (p : Value × Nat) => cs.setIfInBounds (off + p.2) p.1) arr = over arr (off + k) l
  | [], _, _ => rfl
  | v :: l, k, arr => by
    rw [List.zipIdx_cons, List.foldl_cons, foldl_over off l (k + 1)]
    rfl

theorem fill_over (arr cs : Array Value) (off : Nat) : (cs.zipIdx.foldl (fun cs (p : Value × Nat) => cs.setIfInBounds (off + p.2) p.1) arr) = over arr off cs.toList := by
  rw [← Array.foldl_toList, Array.toList_zipIdx]
  exact foldl_over off cs.toList 0 arr

def fillC (place : Nat → Option (Nat × Nat)) (cells : List C) : List (Nat × E) → Option (List C)
  | [] => some cells
  | p :: rest => match place p.1 with
    | none => none
    | some (off, size) => if p.2.cells.length == size && decide (off + size ≤ cells.length) then fillC place (overL cells off p.2.cells) rest else none

theorem fill_read {w : World} {G : Gh} (place : Nat → Option (Nat × Nat)) : ∀ (ps : List (Nat × E)) (vs : List (Nat × Value)) (cells cells' : List C) (arr : Array Value),
    arr.size = cells.length → (∀ (j : Nat) (c : C), cells[j]? = some c → RdC P w G (cellAt arr j) c) →
    ps.length = vs.length → (∀ (j : Nat) (p : Nat × E) (v : Nat × Value), ps[j]? = some p → vs[j]? = some v → p.1 = v.1 ∧ RdE P w G v.2 p.2) →
    fillC place cells ps = some cells' →
    ∃ arr', Instr.fill place arr vs = some arr' ∧ arr'.size = cells'.length ∧ ∀ (j : Nat) (c : C), cells'[j]? = some c → RdC P w G (cellAt arr' j) c
  | [], [], cells, cells', arr, h1, h2, _, _, h => by
    simp only [fillC, Option.some.injEq] at h; subst h
    exact ⟨arr, rfl, h1, h2⟩
  | p :: ps, v :: vs, cells, cells', arr, h1, h2, hl, hp, h => by
    obtain ⟨e1, e2⟩ := hp 0 p v rfl rfl
    obtain ⟨g1, g2⟩ := e2.cells
    obtain ⟨vi, vv⟩ := v
    simp only at e1 g1 g2
    subst e1
    simp only [fillC] at h
    cases hpl : place p.1 with
    | none => rw [hpl] at h; cases h
    | some os =>
      obtain ⟨off, size⟩ := os
      rw [hpl] at h
      simp only at h
      split at h
      · rename_i hc
        simp only [Bool.and_eq_true, beq_iff_eq, decide_eq_true_eq] at hc
        obtain ⟨c1, c2⟩ := hc
        have hrec := fill_read place ps vs (overL cells off p.2.cells) cells' (over arr off vv.cells.toList) (by rw [over_size, overL_length, h1]) (fun j c hj => by
            rw [overL_get _ _ _ _ (by omega)] at hj
            rw [cellAt_over _ _ _ _ (by simp; omega)]
            simp only [Array.length_toList, g1]
            split at hj
            · rename_i hin; rw [if_pos hin, cellAt_toList]; exact g2 _ c hj
            · rename_i hin; rw [if_neg hin]; exact h2 j c hj)
          (by simpa using hl) (fun j q u hq hu => hp (j + 1) q u (by simpa using hq) (by simpa using hu)) h
        obtain ⟨arr', r1, r2, r3⟩ := hrec
        refine ⟨arr', ?_, r2, r3⟩
        simp only [Instr.fill, hpl]
        rw [if_neg (by simp; omega), fill_over]
        exact r1
      · cases h

def placesB (P : Program) (t : TypeId) : Option (List (Nat × Nat)) := match P.underlying t with
  | some (.struct fields) => fields.toList.mapM (fun f => (P.info? f.type).map fun i => (f.offset, i.size))
  | _ => none

def partsR (ps : List (Nat × Operand × E)) : List (Operand × D) := ps.map fun p => (p.2.1, .e p.2.2)

theorem parts_read {G : Gh} {st : St} {a : Act} {w : World} (hs : SimG P X G st a w) : ∀ {ps : List (Nat × Operand × E)}, preR st.env (partsR ps) →
    ∀ (j : Nat) (p : Nat × E) (v : Nat × Value), (ps.map fun p => (p.1, p.2.2))[j]? = some p → (ps.map fun p => (p.1, a.eval p.2.1))[j]? = some v → p.1 = v.1 ∧ RdE P w G v.2 p.2 ∧ ∀ b, b ∈ p.2.names → (st.bx b).isSome = true
  | q :: ps, h, 0, p, v, hp, hv => by
    simp at hp hv
    subst hp; subst hv
    exact ⟨rfl, hs.opd h.1, hs.opd_live h.1⟩
  | q :: ps, h, j + 1, p, v, hp, hv => parts_read hs h.2 j p v (by simpa using hp) (by simpa using hv)

theorem fillC_names (place : Nat → Option (Nat × Nat)) {b : Nat} : ∀ {ps : List (Nat × E)} {cells cells' : List C}, fillC place cells ps = some cells' → b ∈ cnames cells' → b ∈ cnames cells ∨ ∃ p, p ∈ ps ∧ b ∈ p.2.names
  | [], cells, cells', h, hb => by simp only [fillC, Option.some.injEq] at h; subst h; exact .inl hb
  | p :: ps, cells, cells', h, hb => by
    simp only [fillC] at h
    split at h
    · cases h
    · split at h
      · rcases fillC_names place h hb with h1 | ⟨q, h1, h2⟩
        · obtain ⟨c, hc, hbc⟩ := mem_cnames.1 h1
          rcases mem_overL hc with h2 | h2
          · exact .inl (mem_cnames.2 ⟨c, h2, hbc⟩)
          · exact .inr ⟨p, by simp, by rw [← E.cells_names]; exact mem_cnames.2 ⟨c, h2, hbc⟩⟩
        · exact .inr ⟨q, by simp [h1], h2⟩
      · cases h

section run
variable {dr : Bool} {Q : St → Prop} {r i : Nat} {st : St} {log : List (Nat × Loc)} {o : Oper} {gs : List (Operand × D)}

theorem parts_array (ps : List (Nat × Operand × E)) (ρ : Operand → Value) : ((ps.map fun p => (p.1, p.2.1)).toArray.map fun (i, x) => (i, ρ x)) = (ps.map fun p => (p.1, ρ p.2.1)).toArray := by
  simp [Function.comp_def]

theorem r_build {t : TypeId} {s : Nat} {z : Value} {zs : List Value} {pl : List (Nat × Nat)} {cells : List C} {parts : Array (Nat × Operand)} (ps : List (Nat × Operand × E)) (hat : At st.env ops i X.n (.build t parts) s gs) (hps : parts = (ps.map fun p => (p.1, p.2.1)).toArray)
    (hx : preR st.env (partsR ps)) (hz : zeroB P t = some z) (hzs : z.cells.toList = zs) (h1 : zs.all oneC = true) (hpl : placesB P t = some pl) (hf : fillC (pl[·]?) (zs.map fun v => C.pure (T.of v)) (ps.map fun p => (p.1, p.2.2)) = some cells)
    (next : Run P X ops dr Q r (i + 1) (Loc.upd ⟨gs ++ partsR ps, [], some s, some (.e (.agg cells)), [], []⟩ st) ((i, ⟨gs ++ partsR ps, [], some s, some (.e (.agg cells)), [], []⟩) :: log)) : Run P X ops dr Q (r + 1) i st log := by
  obtain ⟨o, ho, hop, hd, hn, hg, hgp⟩ := hat.out
  refine Run.step next ⟨preR_append.2 ⟨hgp, hx⟩, trivial, trivial⟩ (LR.value ho hg rfl hd.symm (hn_of hd hn) ?_)
  intro G st a w hs hpre
  have hx := (preR_append.1 hpre.r).2
  subst hzs
  have hpr := parts_read hs hx
  obtain ⟨arr', r1, r2, r3⟩ := fill_read (P := P) (w := w) (G := G) (pl[·]?) (ps.map fun p => (p.1, p.2.2)) (ps.map fun p => (p.1, a.eval p.2.1)) _ cells z.cells (by simp) (fun j c hj => ofs_read h1 j c hj) (by simp) (fun j p v hp hv => ⟨(hpr j p v hp hv).1, (hpr j p v hp hv).2.1⟩) hf
  refine ⟨.agg arr', w, G, ?_, hs, ?_⟩
  · simp only [execOp, hop, hps, parts_array]
    refine run_then (run_build w t _ arr' ?_) rfl
    unfold zeroB at hz
    cases hit : P.info? t with
    | none => rw [hit] at hz; cases hz
    | some it =>
      rw [hit] at hz
      simp only [Option.bind_some] at hz
      unfold placesB at hpl
      cases hu : P.underlying t with
      | none => rw [hu] at hpl; cases hpl
      | some d =>
        rw [hu] at hpl
        cases d <;> first | (cases hpl; done) | skip
        rename_i fields
        unfold Program.built
        rw [hit, hu]
        simp only [hz]
        rw [show (fields.toList.mapM fun f => (P.info? f.type).map fun i => (f.offset, i.size)) = some pl from hpl]
        simpa using r1
  · rintro d ⟨⟩
    refine ⟨⟨arr', rfl, r2, r3⟩, fun b hb => ?_⟩
    rcases fillC_names _ hf hb with h | ⟨p, h2, h3⟩
    · rw [ofs_names] at h; cases h
    · obtain ⟨j, hj⟩ := List.mem_iff_getElem?.1 h2
      have hlt := lt_of_get hj
      simp only [List.length_map] at hlt
      exact (hpr j p ((ps.map fun p => (p.1, a.eval p.2.1))[j]'(by simpa using hlt)) hj (by simp [hlt])).2.2 b h3

/-- The cells of rows, one behind the other. -/
theorem flat_get {e : Nat} : ∀ {rows : List (List T)} {i j : Nat} {row : List T} {t : T}, (∀ (i : Nat) (row : List T), rows[i]? = some row → row.length = e) → rows[i]? = some row → row[j]? = some t → (rows.flatten)[i * e + j]? = some t
  | r :: rows, 0, j, row, t, hl, hi, hj => by
    simp at hi; subst hi
    rw [List.flatten_cons, Nat.zero_mul, Nat.zero_add, List.getElem?_append_left (lt_of_get hj)]; exact hj
  | r :: rows, i + 1, j, row, t, hl, hi, hj => by
    have h0 := hl 0 r rfl
    rw [List.flatten_cons, Nat.succ_mul, show i * e + e + j = e + (i * e + j) from by omega, List.getElem?_append_right (by omega), h0, Nat.add_sub_cancel_left]
    exact flat_get (fun i row h => hl (i + 1) row (by simpa using h)) (by simpa using hi) hj

theorem flat_length {e : Nat} : ∀ {rows : List (List T)}, (∀ (i : Nat) (row : List T), rows[i]? = some row → row.length = e) → rows.flatten.length = rows.length * e
  | [], _ => by simp
  | r :: rows, h => by
    rw [List.flatten_cons, List.length_append, h 0 r rfl, flat_length (fun i row hi => h (i + 1) row (by simpa using hi)), List.length_cons, Nat.succ_mul]; omega

/-- A row of cells that reads as rows. -/
def RowsAt (w : World) (S : Nat → Prop) (arr : Array Value) (e off : Nat) (rows : List (List T)) : Prop :=
  off + rows.length * e ≤ arr.size ∧ (∀ (i : Nat) (row : List T), rows[i]? = some row → row.length = e) ∧ ∀ (i : Nat) (row : List T) (j : Nat) (t : T), rows[i]? = some row → row[j]? = some t → RdT w S (cellAt arr (off + i * e + j)) t

theorem fill_rows {w : World} {G : Gh} (e : Nat) : ∀ (ps : List (Nat × E)) (vs : List (Nat × Value)) (rows : List (List T)) (k n : Nat) (arr : Array Value),
    ps.map (·.1) = (List.range' k ps.length) → k + ps.length ≤ n → arr.size = n * e → ps.length = vs.length → (∀ (j : Nat) (p : Nat × E) (v : Nat × Value), ps[j]? = some p → vs[j]? = some v → p.1 = v.1 ∧ RdE P w G v.2 p.2) →
    (ps.mapM fun p => p.2.ts) = some rows → (∀ (i : Nat) (row : List T), rows[i]? = some row → row.length = e) →
    ∃ arr', Instr.fill (fun i => some (i * e, e)) arr vs = some arr' ∧ arr'.size = n * e ∧ (∀ j, j < k * e → cellAt arr' j = cellAt arr j) ∧ (∀ (i : Nat) (row : List T) (j : Nat) (t : T), rows[i]? = some row → row[j]? = some t → RdT w G.S (cellAt arr' ((k + i) * e + j)) t)
  | [], [], rows, k, n, arr, _, _, hsz, _, _, hr, _ => by
    simp at hr; subst hr
    exact ⟨arr, rfl, hsz, fun _ _ => rfl, fun i row j t hi => by simp at hi⟩
  | p :: ps, v :: vs, rows, k, n, arr, hk, hkn, hsz, hl, hp, hr, hrl => by
    simp only [List.length_cons] at hkn hl
    have hk0 : p.1 = k := by
      have := congrArg (fun l : List Nat => l[0]?) hk
      simpa [List.range'] using this
    have hk1 : ps.map (·.1) = List.range' (k + 1) ps.length := by
      have := congrArg List.tail hk
      simpa [List.range'] using this
    obtain ⟨e1, e2⟩ := hp 0 p v rfl rfl
    rw [List.mapM_cons] at hr
    cases hts : p.2.ts with
    | none => rw [hts] at hr; simp at hr
    | some ts =>
      obtain ⟨g1, g2⟩ := e2.ts hts
      rw [hts] at hr
      cases hrs : (ps.mapM fun p => p.2.ts) with
      | none => rw [hrs] at hr; simp at hr
      | some rs =>
        rw [hrs] at hr
        simp at hr; subst hr
        have hte := hrl 0 ts rfl
        have hke : k * e + e ≤ n * e := by rw [← Nat.succ_mul]; exact Nat.mul_le_mul_right e (by omega)
        obtain ⟨arr', r1, r2, r3, r4⟩ := fill_rows e ps vs rs (k + 1) n (over arr (k * e) v.2.cells.toList) hk1 (by omega) (by rw [over_size, hsz]) (by omega) (fun j q u hq hu => hp (j + 1) q u (by simpa using hq) (by simpa using hu)) hrs (fun i row hi => hrl (i + 1) row (by simpa using hi))
        have hlen : v.2.cells.toList.length = e := by rw [Array.length_toList, g1, hte]
        have hov : ∀ j, cellAt (over arr (k * e) v.2.cells.toList) j = if k * e ≤ j ∧ j < k * e + e then cellAt v.2.cells (j - k * e) else cellAt arr j := fun j => by
          rw [cellAt_over _ _ _ _ (by rw [hlen, hsz]; exact hke), hlen, cellAt_toList]
        refine ⟨arr', ?_, r2, ?_, ?_⟩
        · obtain ⟨vi, vv⟩ := v
          simp only at e1 g1
          simp only [Instr.fill]
          rw [if_neg (by rw [← e1, hk0]; simp; omega), fill_over, ← e1, hk0]
          exact r1
        · intro j hj
          rw [r3 j (by rw [Nat.succ_mul]; omega), hov, if_neg (by omega)]
        · intro i row j t hi hj
          cases i with
          | zero =>
            simp at hi; subst hi
            have hj2 := lt_of_get hj
            rw [Nat.add_zero, r3 _ (by rw [Nat.succ_mul]; omega), hov, if_pos (by omega), Nat.add_sub_cancel_left]
            exact g2 j t hj
          | succ i =>
            rw [show (k + (i + 1)) * e + j = (k + 1 + i) * e + j from by rw [show k + (i + 1) = k + 1 + i from by omega]]
            exact r4 i row j t (by simpa using hi) hj

theorem mapM_length {α β : Type} {f : α → Option β} : ∀ {l : List α} {l' : List β}, l.mapM f = some l' → l'.length = l.length
  | [], l', h => by simp at h; subst h; rfl
  | a :: l, l', h => by
    rw [List.mapM_cons] at h
    cases ha : f a with
    | none => rw [ha] at h; simp at h
    | some b =>
      rw [ha] at h
      cases hl : l.mapM f with
      | none => rw [hl] at h; simp at h
      | some bs => rw [hl] at h; simp at h; subst h; simp [mapM_length hl]

theorem r_buildSlice {t el : TypeId} {s n e : Nat} {z : Value} {rows : List (List T)} {parts : Array (Nat × Operand)} (ps : List (Nat × Operand × E)) (hat : At st.env ops i X.n (.buildSlice t n parts) s gs) (hps : parts = (ps.map fun p => (p.1, p.2.1)).toArray)
    (hx : preR st.env (partsR ps)) (hnew : st.bx s = none) (ht : sliceB P t el = true) (he : szB P el e = true) (hz : zeroB P el = some z) (hk : ps.map (·.1) = List.range' 0 ps.length) (hl : ps.length = n) (hsm : n * e ≤ 16777216) (hr : (ps.map fun p => (p.1, p.2.2)).mapM (fun p => p.2.ts) = some rows) (hrl : rows.all (fun row => row.length == e) = true)
    (next : Run P X ops dr Q r (i + 1) (Loc.upd ⟨gs ++ partsR ps, [], some s, some (.e (.one (.own s))), [(s, .vec e rows)], [s]⟩ st) ((i, ⟨gs ++ partsR ps, [], some s, some (.e (.one (.own s))), [(s, .vec e rows)], [s]⟩) :: log)) : Run P X ops dr Q (r + 1) i st log := by
  obtain ⟨o, ho, hop, hd, hn, hg, hgp⟩ := hat.out
  refine Run.step next ⟨preR_append.2 ⟨hgp, hx⟩, trivial, hnew, trivial⟩ (LR.value ho hg rfl hd.symm (hn_of hd hn) ?_)
  intro G st a w hs hpre
  have hx := (preR_append.1 hpre.r).2
  have hnew := hpre.n.1
  have hpr := parts_read hs hx
  have hrl' : ∀ (i : Nat) (row : List T), rows[i]? = some row → row.length = e := fun i row hi => by
    have := List.all_eq_true.1 hrl row (List.mem_of_getElem? hi); simpa using this
  have hrn : rows.length = n := by
    have := mapM_length hr
    simpa [hl] using this
  obtain ⟨arr', r1, r2, r3, r4⟩ := fill_rows (P := P) (w := w) (G := G) e (ps.map fun p => (p.1, p.2.2)) (ps.map fun p => (p.1, a.eval p.2.1)) rows 0 n ((Array.range (n * e)).map (fun k => (if n * e = 0 then (#[] : Array Value) else z.cells)[k % (if n * e = 0 then (#[] : Array Value) else z.cells).size]!)) (by simpa [Function.comp_def] using hk) (by simp [hl]) (by simp) (by simp) (fun j p v hp hv => ⟨(hpr j p v hp hv).1, (hpr j p v hp hv).2.1⟩) hr hrl'
  simp only [Nat.zero_add] at r4
  have hext : G.ext (G.set s (some w.heap.size) (.slice (some ⟨w.heap.size, 0, none⟩) n n)) (fun b => (st.bx b).isSome = true) := Gh.set_ext _ _ _ _ (by simp [hnew])
  have key := hs.newB (.cells arr' el) s (.vec e rows) (.slice (some ⟨w.heap.size, 0, none⟩) n n) hnew
    (.inr ⟨w.heap.size, n, arr', el, by simp [Gh.set], by simp [Gh.set, hrn], by rw [heap_alloc, if_pos rfl], by omega, r2, hrl', fun i row j t hi hj => (r4 i row j t hi hj).mono (fun β hβ => by rw [heap_alloc, if_neg (Nat.ne_of_lt (hs.S_lt β hβ))]) fun _ h => h⟩)
    (fun c hc => by cases hc)
  refine ⟨.slice (some ⟨w.heap.size, 0, none⟩) n n, _, _, ?_, key, ?_⟩
  · simp only [execOp, hop, hps, parts_array]
    refine run_then (w1 := w.alloc (.cells arr' el)) (a := .slice (some ⟨w.heap.size, 0, none⟩) n n) ?_ rfl
    unfold sliceB at ht
    split at ht
    · rename_i e' hu
      have : e' = el := by simpa using ht
      subst this
      unfold Instr.buildSlice
      refine run_then (run_underlying' hu w) ?_
      refine run_then (run_sizeOf he w) ?_
      rw [if_neg (by omega)]
      by_cases hne : n * e = 0
      · rw [if_pos hne] at r1
        rw [if_pos hne]
        refine run_then (a := (#[] : Array Value)) (w1 := w) rfl ?_
        simp only [r1]
        rfl
      · rw [if_neg hne] at r1
        rw [if_neg hne]
        refine run_then (run_zeroValue hz w) ?_
        refine run_then (a := z.cells) (w1 := w) rfl ?_
        simp only [r1]
        rfl
    · cases ht
  · rintro d ⟨⟩
    refine ⟨⟨by simp [Gh.set], _, _, _, rfl⟩, fun b hb => ?_⟩
    simp [D.names, E.names, C.names] at hb
    subst hb; simp [setBs]

end run
end Go.Lift
