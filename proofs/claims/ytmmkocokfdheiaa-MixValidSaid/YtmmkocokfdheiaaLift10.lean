/- Lemmas for MixValidSaid, which YtmmkocokfdheiaaFin7 proves. -/
/- The rules of make, of a slice cut out of a slice, of a length of a string. No condition. -/
import Derived.Test.YtmmkocokfdheiaaLift9
namespace Go.Lift
open Go.RowKit

variable {P : Program} {X : Ctx} {ops : Array Oper}

theorem wrap_i64 {n : Int} (h0 : 0 ≤ n) (h1 : n ≤ lim) : IntKind.i64.wrap n = n := by
  have h2 : (lim : Int) = 4294967296 := by simp [lim]
  unfold IntKind.wrap
  simp only [IntKind.bits, IntKind.signed]
  have h3 : n % (2 ^ 64 : Int) = n := Int.emod_eq_of_lt h0 (by omega)
  simp only [h3]
  rw [if_neg]
  simp
  omega

section run
variable {dr : Bool} {Q : St → Prop} {r i : Nat} {st : St} {log : List (Nat × Loc)} {o : Oper} {gs : List (Operand × D)}

theorem run_makeSlice {t el e bytes : Nat} {w : World} {z : Value} {k k' : IntKind} {l c : Int} (ht : sliceB P t el = true) (he : szB P el e = true) (hby : bytesB P el bytes = true) (hbs : bytes ≤ 4096) (hz : zeroB P el = some z) (h0 : 0 ≤ l) (hlc : l ≤ c) (hc : c ≤ lim) :
    ∃ arr, (Instr.makeSlice t (.int k l) (.int k' c)).run P w = .ok (.slice (some ⟨w.heap.size, 0, none⟩) l.toNat c.toNat) (w.alloc (.cells arr el)) ∧ arr.size = c.toNat * e ∧
      ∀ i j, i < c.toNat → j < e → z.cells.size = e → cellAt arr (i * e + j) = cellAt z.cells j := by
  unfold sliceB at ht
  split at ht
  · rename_i e' hu
    have : e' = el := by simpa using ht
    subst this
    unfold bytesB at hby
    split at hby
    · rename_i inf hinf
      have hbytes : inf.bytes = bytes := by simpa using hby
      have hl : IntKind.i64.wrap l = l := wrap_i64 h0 (by omega)
      have hc' : IntKind.i64.wrap c = c := wrap_i64 (by omega) hc
      have hlim : (lim : Int) = 4294967296 := by simp [lim]
      have hb : (inf.bytes : Int) * c ≤ 17592186044416 := by
        have h1 : inf.bytes * c.toNat ≤ 4096 * 4294967296 := Nat.mul_le_mul (by omega) (by omega)
        have h2 : ((inf.bytes * c.toNat : Nat) : Int) = (inf.bytes : Int) * c := by rw [Int.natCast_mul, Int.toNat_of_nonneg (by omega)]
        omega
      refine ⟨(Array.range (c.toNat * e)).map (fun k => (if c.toNat * e = 0 then (#[] : Array Value) else z.cells)[k % (if c.toNat * e = 0 then (#[] : Array Value) else z.cells).size]!), ?_, by simp, ?_⟩
      · unfold Instr.makeSlice
        refine run_then (run_underlying' hu w) ?_
        refine run_then (a := l) (w1 := w) rfl ?_
        refine run_then (a := c) (w1 := w) rfl ?_
        refine run_then (run_typeInfo hinf w) ?_
        simp only [hl, hc']
        have hcond : (((decide (c < 0) || decide ((inf.bytes : Int) * c > 2 ^ 48)) || decide (l < 0)) || decide (l > c)) = false := by
          simp; omega
        rw [hcond]
        simp only [Bool.false_eq_true, if_false]
        refine run_then (run_askRoom P w _) ?_
        refine run_then (run_sizeOf he w) ?_
        by_cases hne : c.toNat * e = 0
        · simp only [hne, if_true]
          rfl
        · simp only [hne, if_false]
          refine run_then (run_zeroValue hz w) ?_
          rfl
      · intro i j hi hj hzs
        have hne : ¬ c.toNat * e = 0 := by
          intro h
          rcases Nat.mul_eq_zero.1 h with h | h <;> omega
        simp only [hne, if_false]
        have hle : i * e + e ≤ c.toNat * e := by rw [← Nat.succ_mul]; exact Nat.mul_le_mul_right e hi
        have hlt : i * e + j < c.toNat * e := by omega
        have hmod : (i * e + j) % e = j := by rw [Nat.mul_comm, Nat.mul_add_mod]; exact Nat.mod_eq_of_lt hj
        unfold cellAt
        simp [hlt, hzs, hmod, hj]
    · cases hby
  · cases ht

theorem r_makeSlice {x y : Operand} {t el s e bytes : Nat} {z : Value} {zs : List Value} {rows : List (List T)} {k k' : IntKind} {l c : Int} (hat : At st.env ops i X.n (.makeSlice t x y) s gs)
    (hx : opd st.env x = some (vD (.int k l))) (hy : opd st.env y = some (vD (.int k' c))) (hnew : st.bx s = none) (ht : sliceB P t el = true) (he : szB P el e = true) (hby : bytesB P el bytes = true) (hbs : bytes ≤ 4096) (hz : zeroB P el = some z) (hzs : z.cells.toList = zs) (hze : zs.length = e) (h1 : zs.all oneC = true) (h0 : 0 ≤ l) (hlc : l ≤ c) (hc : c ≤ lim) (hrows : List.replicate l.toNat (zs.map fun v => (T.of v).nrm) = rows)
    (next : Run P X ops dr Q r (i + 1) (Loc.upd ⟨gs ++ [(x, vD (.int k l)), (y, vD (.int k' c))], [], some s, some (.e (.one (.own s))), [(s, .vec e rows)], [s]⟩ st) ((i, ⟨gs ++ [(x, vD (.int k l)), (y, vD (.int k' c))], [], some s, some (.e (.one (.own s))), [(s, .vec e rows)], [s]⟩) :: log)) : Run P X ops dr Q (r + 1) i st log := by
  subst hrows
  obtain ⟨o, ho, hop, hd, hn, hg, hgp⟩ := hat.out
  refine Run.step next ⟨preR_append.2 ⟨hgp, hx, hy, trivial⟩, trivial, hnew, trivial⟩ (LR.value ho hg rfl hd.symm (hn_of hd hn) ?_)
  intro G st a w hs hpre
  obtain ⟨hx, hy, _⟩ := (preR_append.1 hpre.r).2
  have hnew := hpre.n.1
  have hX : a.eval x = .int k l := val_eq (hs.opd hx : RdT w G.S (a.eval x) (.val _))
  have hY : a.eval y = .int k' c := val_eq (hs.opd hy : RdT w G.S (a.eval y) (.val _))
  obtain ⟨arr, r1, r2, r3⟩ := run_makeSlice (P := P) (w := w) (k := k) (k' := k') ht he hby hbs hz h0 hlc hc
  have hrow : ∀ (i : Nat) (row : List T), (List.replicate l.toNat (zs.map fun v => (T.of v).nrm))[i]? = some row → i < l.toNat ∧ row = zs.map fun v => (T.of v).nrm := fun i row hi => by
    have hlt := lt_of_get hi
    simp only [List.length_replicate] at hlt
    rw [List.getElem?_replicate, if_pos hlt] at hi
    exact ⟨hlt, by simpa using hi.symm⟩
  have key := hs.newB (.cells arr el) s (.vec e (List.replicate l.toNat (zs.map fun v => (T.of v).nrm))) (.slice (some ⟨w.heap.size, 0, none⟩) l.toNat c.toNat) hnew
    (.inr ⟨w.heap.size, c.toNat, arr, el, by simp [Gh.set], by simp [Gh.set], by rw [heap_alloc, if_pos rfl], by simp; omega, r2, fun i row hi => by rw [(hrow i row hi).2]; simpa using hze, fun i row j t hi hj => by
      obtain ⟨h2, h3⟩ := hrow i row hi
      subst h3
      have hj' := lt_of_get hj
      simp only [List.length_map] at hj'
      rw [r3 i j (by omega) (by omega) (by rw [← hze, ← hzs]; simp)]
      have hzj : z.cells.toList[j]? = some (zs[j]) := by rw [hzs]; simp [hj']
      have : t = (T.of zs[j]).nrm := by simpa [hj'] using hj.symm
      subst this
      have hc2 : cellAt z.cells j = zs[j] := by
        have : z.cells[j]? = some zs[j] := by simpa using hzj
        simp [cellAt, this]
      rw [hc2]
      exact (RdT.of (List.all_eq_true.1 h1 _ (List.getElem_mem hj'))).nrm⟩)
    (fun c hc => by cases hc)
  refine ⟨.slice (some ⟨w.heap.size, 0, none⟩) l.toNat c.toNat, _, _, ?_, key, ?_⟩
  · simp only [execOp, hop, hX, hY]
    exact run_then r1 rfl
  · rintro d ⟨⟩
    refine ⟨⟨by simp [Gh.set], _, _, _, rfl⟩, fun b hb => ?_⟩
    simp [D.names, E.names, C.names] at hb
    subst hb; simp [setBs]

/-- A bound of a slice expression. -/
inductive Bnd : Option Operand → Nat → Nat → List (Operand × D) → Prop where
  | none (d : Nat) : Bnd none d d []
  | some (y : Operand) (d : Nat) (k : IntKind) (v : Int) (h : 0 ≤ v) : Bnd (some y) d v.toNat [(y, vD (.int k v))]

theorem run_sliceBound {k : IntKind} {v : Int} {y : Nat} {code : BoundsCode} (h : 0 ≤ v) (h2 : v.toNat ≤ y) (w : World) : (Instr.sliceBound (.int k v) y code).run P w = .ok v.toNat w := by
  unfold Instr.sliceBound
  refine run_then (a := (k, v)) (w1 := w) rfl ?_
  have : 0 ≤ v ∧ v ≤ (y : Int) := ⟨h, by omega⟩
  simp only [this, and_self, if_true]; rfl

theorem run_sliceBounds {G : Gh} {st : St} {a : Act} {w : World} (hs : SimG P X G st a w) {lo hi : Option Operand} {l h len cap : Nat} {rl rh : List (Operand × D)} (hlo : Bnd lo 0 l rl) (hhi : Bnd hi len h rh) (h1 : preR st.env rl) (h2 : preR st.env rh) (hlh : l ≤ h) (hhc : h ≤ cap) :
    (Instr.sliceBounds true len cap (lo.map a.eval) (hi.map a.eval) none).run P w = .ok (l, h, cap) w := by
  unfold Instr.sliceBounds
  refine run_then (a := cap) (w1 := w) rfl ?_
  have low : ∀ (h : Nat), l ≤ h → ((match lo.map a.eval with
            | some v => do
              let l ← Instr.sliceBound v h (if (none : Option Value).isSome = true then BoundsCode.slice3C else BoundsCode.sliceB)
              pure (l, h, cap)
            | none => do
              let l ← pure 0
              pure (l, h, cap) : Sem (Nat × Nat × Nat))).run P w = .ok (l, h, cap) w := fun h hlh => by
    cases hlo with
    | none => rfl
    | some y d k v hv =>
      have : a.eval y = .int k v := val_eq (hs.opd h1.1 : RdT w G.S (a.eval y) (.val _))
      simp only [Option.map_some, this]
      exact run_then (run_sliceBound hv hlh w) rfl
  cases hhi with
  | none => exact run_then (w1 := w) rfl (low _ hlh)
  | some y d k v hv =>
    have : a.eval y = .int k v := val_eq (hs.opd h2.1 : RdT w G.S (a.eval y) (.val _))
    simp only [Option.map_some, this]
    exact run_then (run_sliceBound hv hhc w) (low _ hlh)

theorem run_sliceAt {t el e : Nat} {G : Gh} {st : St} {a : Act} {w : World} (hs : SimG P X G st a w) {lo hi : Option Operand} {l h len cap : Nat} {rl rh : List (Operand × D)} {p : Option Addr} (ht : sliceB P t el = true) (he : szB P el e = true) (hlo : Bnd lo 0 l rl) (hhi : Bnd hi len h rh) (h1 : preR st.env rl) (h2 : preR st.env rh) (hlh : l ≤ h) (hhc : h ≤ cap) :
    (Instr.sliceAt t (.slice p len cap) (lo.map a.eval) (hi.map a.eval) none).run P w = .ok (.slice (if cap = l then p else p.map (·.add (l * e))) (h - l) (cap - l)) w := by
  unfold sliceB at ht
  split at ht
  · rename_i e' hu
    have : e' = el := by simpa using ht
    subst this
    unfold Instr.sliceAt
    refine run_then (run_underlying' hu w) ?_
    unfold Instr.slice
    refine run_then (run_underlying' hu w) ?_
    refine run_then (run_sliceBounds hs hlo hhi h1 h2 hlh hhc) ?_
    refine run_then (run_sizeOf he w) ?_
    rfl
  · cases ht

theorem r_slice {x : Operand} {t el s e l h : Nat} {lo hi : Option Operand} {rl rh : List (Operand × D)} {rows rows' : List (List T)} (hat : At st.env ops i X.n (.slice t x lo hi none) s gs)
    (hx : opd st.env x = some (one (.sl rows))) (ht : sliceB P t el = true) (he : szB P el e = true) (hrl : ∀ (i : Nat) (row : List T), rows[i]? = some row → row.length = e) (hlo : Bnd lo 0 l rl) (hhi : Bnd hi rows.length h rh) (h1 : preR st.env rl) (h2 : preR st.env rh) (hlh : l ≤ h) (hhl : h ≤ rows.length) (hr : (rows.drop l).take (h - l) = rows')
    (next : Run P X ops dr Q r (i + 1) (Loc.upd ⟨gs ++ ((x, one (.sl rows)) :: (rl ++ rh)), [], some s, some (one (.sl rows')), [], []⟩ st) ((i, ⟨gs ++ ((x, one (.sl rows)) :: (rl ++ rh)), [], some s, some (one (.sl rows')), [], []⟩) :: log)) : Run P X ops dr Q (r + 1) i st log := by
  obtain ⟨o, ho, hop, hd, hn, hg, hgp⟩ := hat.out
  refine Run.step next ⟨preR_append.2 ⟨hgp, hx, preR_append.2 ⟨h1, h2⟩⟩, trivial, trivial⟩ (LR.value ho hg rfl hd.symm (hn_of hd hn) ?_)
  intro G st a w hs hpre
  obtain ⟨hx, h12⟩ := (preR_append.1 hpre.r).2
  obtain ⟨h1, h2⟩ := preR_append.1 h12
  subst hr
  have hR : RdT w G.S (a.eval x) (.sl rows) := hs.opd hx
  have hlen : ((rows.drop l).take (h - l)).length = h - l := by simp; omega
  have hex : ∀ v : Value, (Instr.sliceAt t (a.eval x) (lo.map a.eval) (hi.map a.eval) none).run P w = .ok v w → (execOp a.eval o).run P w = .ok (.value v) w := fun v hv => by
    simp only [execOp, hop]
    exact run_then hv rfl
  have fin : ∀ v : Value, RdT w G.S v (.sl ((rows.drop l).take (h - l))) → ∀ d, some (one (.sl ((rows.drop l).take (h - l)))) = some d → RdD P w G v d ∧ ∀ b, b ∈ d.names → (setBs st.bx [] b).isSome = true := fun v hv d hd => by
    cases hd; exact ⟨hv, fun b hb => by cases hb⟩
  generalize hv : a.eval x = v at hR hex
  cases hR with
  | nil a' cap =>
    have hh : h = 0 := by simpa using hhl
    subst hh
    have hl0 : l = 0 := by omega
    subst hl0
    refine ⟨_, w, G, hex _ (run_sliceAt (a := a) hs ht he hlo hhi h1 h2 hlh (Nat.zero_le _)), hs, fin _ ?_⟩
    exact .nil _ _
  | sl β off cap e' arr el' fz rows g1 g2 g3 g4 g5 g6 =>
    refine ⟨_, w, G, hex _ (run_sliceAt (a := a) hs ht he hlo hhi h1 h2 hlh (by omega)), hs, fin _ ?_⟩
    by_cases hz : h - l = 0
    · rw [hz, List.take_zero]; exact .nil _ _
    · have hlc : ¬ cap = l := by omega
      rw [if_neg hlc]
      simp only [Option.map_some, Addr.add_mk]
      have hrow0 : ∃ r0, rows[l]? = some r0 := ⟨rows[l]'(by omega), by simp [show l < rows.length from by omega]⟩
      obtain ⟨r0, hr0⟩ := hrow0
      have hee : e' = e := by rw [← hrl l r0 hr0]; exact (g5 l r0 hr0).symm
      subst hee
      have hget : ∀ (i : Nat) (row : List T), ((rows.drop l).take (h - l))[i]? = some row → rows[l + i]? = some row := fun i row hi => by
        have := lt_of_get hi
        rw [hlen] at this
        rw [List.getElem?_take_of_lt this, List.getElem?_drop] at hi
        exact hi
      have hle : l * e' + (h - l) * e' ≤ rows.length * e' := by rw [← Nat.add_mul]; exact Nat.mul_le_mul_right e' (by omega)
      have := RdT.sl (w := w) (S := G.S) β (off + l * e') (cap - l) e' arr el' fz ((rows.drop l).take (h - l)) g1 g2 (by rw [hlen]; omega) (by rw [hlen]; omega) (fun i row hi => g5 _ row (hget i row hi)) (fun i row j t hi hj => by
        have := g6 _ row j t (hget i row hi) hj
        rwa [Nat.add_mul, ← Nat.add_assoc] at this)
      rwa [hlen] at this

theorem r_slice00 {x : Operand} {t el s e : Nat} {rows : List (List T)} (hat : At st.env ops i X.n (.slice t x none (some (.const (.int .i64 0))) (some (.const (.int .i64 0)))) s gs)
    (hx : opd st.env x = some (one (.sl rows))) (ht : sliceB P t el = true) (he : szB P el e = true)
    (next : Run P X ops dr Q r (i + 1) (Loc.upd ⟨gs ++ [(x, one (.sl rows))], [], some s, some (one .nil0), [], []⟩ st) ((i, ⟨gs ++ [(x, one (.sl rows))], [], some s, some (one .nil0), [], []⟩) :: log)) : Run P X ops dr Q (r + 1) i st log := by
  obtain ⟨o, ho, hop, hd, hn, hg, hgp⟩ := hat.out
  refine Run.step next ⟨preR_append.2 ⟨hgp, hx, trivial⟩, trivial, trivial⟩ (LR.value ho hg rfl hd.symm (hn_of hd hn) ?_)
  intro G st a w hs hpre
  obtain ⟨hx, _⟩ := (preR_append.1 hpre.r).2
  have hR : RdT w G.S (a.eval x) (.sl rows) := hs.opd hx
  have hsl : ∃ p len cap, a.eval x = .slice p len cap := by
    generalize a.eval x = v at hR
    cases hR with
    | nil a' cap => exact ⟨_, _, _, rfl⟩
    | sl β off cap e' arr el' fz rows g1 g2 g3 g4 g5 g6 => exact ⟨_, _, _, rfl⟩
  obtain ⟨p, len, cap, hv⟩ := hsl
  unfold sliceB at ht
  split at ht
  · rename_i e' hu
    have : e' = el := by simpa using ht
    subst this
    refine ⟨.slice p 0 0, w, G, ?_, hs, ?_⟩
    · simp only [execOp, hop, hv]
      refine run_then (w1 := w) (a := .slice p 0 0) ?_ rfl
      unfold Instr.sliceAt
      refine run_then (run_underlying' hu w) ?_
      unfold Instr.slice
      refine run_then (run_underlying' hu w) ?_
      refine run_then (a := (0, 0, 0)) (w1 := w) ?_ ?_
      · unfold Instr.sliceBounds
        refine run_then (a := 0) (w1 := w) (run_sliceBound (P := P) (k := .i64) (v := 0) (by omega) (by simp) w) ?_
        refine run_then (a := 0) (w1 := w) (run_sliceBound (P := P) (k := .i64) (v := 0) (by omega) (by simp) w) ?_
        exact run_then (a := 0) (w1 := w) rfl rfl
      · refine run_then (run_sizeOf he w) ?_
        rfl
    · rintro d ⟨⟩
      exact ⟨.nil0 _, fun b hb => by cases hb⟩
  · cases ht

end run
end Go.Lift
