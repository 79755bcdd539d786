/- Lemmas for MixValidSaid, which YtmmkocokfdheiaaFin7 proves. -/
/- More operations: indexes, lengths, numbers, structs, slices made, cut and appended to. No condition. -/
import Derived.Test.YtmmkocokfdheiaaLift5
namespace Go.Lift
open Go.RowKit

variable {P : Program} {X : Ctx} {ops : Array Oper}

section run
variable {dr : Bool} {Q : St → Prop} {r i : Nat} {st : St} {log : List (Nat × Loc)} {o : Oper} {gs : List (Operand × D)}

theorem val_eq {w : World} {S : Nat → Prop} {v u : Value} (h : RdT w S v (.val u)) : v = u := by cases h; rfl

theorem r_index {x y : Operand} {s e : Nat} {rows : List (List T)} {row : List T} {t el : TypeId} {k : IntKind} {n : Int} (hat : At st.env ops i X.n (.indexAddr t x y) s gs)
    (hx : opd st.env x = some (one (.sl rows))) (hy : opd st.env y = some (vD (.int k n))) (ht : sliceB P t el = true) (hz : szB P el e = true) (h0 : 0 ≤ n) (hrow : rows[n.toNat]? = some row) (hl : row.length = e)
    (next : Run P X ops dr Q r (i + 1) (Loc.upd ⟨gs ++ [(x, one (.sl rows)), (y, vD (.int k n))], [], some s, some (.e (.one (.rop row))), [], []⟩ st) ((i, ⟨gs ++ [(x, one (.sl rows)), (y, vD (.int k n))], [], some s, some (.e (.one (.rop row))), [], []⟩) :: log)) : Run P X ops dr Q (r + 1) i st log := by
  obtain ⟨o, ho, hop, hd, hn, hg, hgp⟩ := hat.out
  refine Run.step next ⟨preR_append.2 ⟨hgp, hx, hy, trivial⟩, trivial, trivial⟩ (LR.value ho hg rfl hd.symm (hn_of hd hn) ?_)
  intro G st a w hs hpre
  obtain ⟨hx, hy, _⟩ := (preR_append.1 hpre.r).2
  have hR : RdT w G.S (a.eval x) (.sl rows) := hs.opd hx
  have hY : a.eval y = .int k n := val_eq (hs.opd hy : RdT w G.S (a.eval y) (.val _))
  have hix := lt_of_get hrow
  generalize hv : a.eval x = v at hR
  cases hR with
  | nil => simp at hrow
  | sl β off cap e' arr el' fz rows h1 h2 h3 h4 h5 h6 =>
    have he : e' = e := by rw [← hl]; exact (h5 _ row hrow).symm
    subst he
    have hbnd : n.toNat * e' + e' ≤ rows.length * e' := by rw [← Nat.succ_mul]; exact Nat.mul_le_mul_right e' hix
    refine ⟨_, w, G, by simp only [execOp, hop, hv, hY]; exact run_then (run_indexAt ht hz h0 hix) rfl, hs, ?_⟩
    rintro d ⟨⟩
    exact ⟨⟨β, _, arr, el', fz, rfl, h1, h2, by omega, fun j u hj => h6 _ row j u hrow hj⟩, fun b hb => by cases hb⟩

theorem r_indexo {x y : Operand} {s e b : Nat} {rows : List (List T)} {row : List T} {t el : TypeId} {k : IntKind} {n : Int} (hat : At st.env ops i X.n (.indexAddr t x y) s gs)
    (hx : opd st.env x = some (.e (.one (.own b)))) (hy : opd st.env y = some (vD (.int k n))) (hb : st.bx b = some (.vec e rows)) (ht : sliceB P t el = true) (hz : szB P el e = true) (h0 : 0 ≤ n) (hrow : rows[n.toNat]? = some row)
    (next : Run P X ops dr Q r (i + 1) (Loc.upd ⟨gs ++ [(x, .e (.one (.own b))), (y, vD (.int k n))], [(b, .vec e rows)], some s, some (.e (.one (.eptr b e n.toNat 0))), [], []⟩ st) ((i, ⟨gs ++ [(x, .e (.one (.own b))), (y, vD (.int k n))], [(b, .vec e rows)], some s, some (.e (.one (.eptr b e n.toNat 0))), [], []⟩) :: log)) : Run P X ops dr Q (r + 1) i st log := by
  obtain ⟨o, ho, hop, hd, hn, hg, hgp⟩ := hat.out
  refine Run.step next ⟨preR_append.2 ⟨hgp, hx, hy, trivial⟩, ⟨hb, trivial⟩, trivial⟩ (LR.value ho hg rfl hd.symm (hn_of hd hn) ?_)
  intro G st a w hs hpre
  obtain ⟨hx, hy, _⟩ := (preR_append.1 hpre.r).2
  have hb := hpre.b.1
  obtain ⟨hR, _⟩ : RdC P w G (a.eval x) (.own b) := hs.opd hx
  have hY : a.eval y = .int k n := val_eq (hs.opd hy : RdT w G.S (a.eval y) (.val _))
  have hix := lt_of_get hrow
  rcases hs.blk b _ hb with ⟨_, _, h0', _⟩ | ⟨β, cap, arr, el', g0, g1, g2, g3, g4, g5, g6⟩
  · subst h0'; simp at hrow
  · refine ⟨_, w, G, by simp only [execOp, hop, hR, g1, hY]; exact run_then (run_indexAt ht hz h0 hix) rfl, hs, ?_⟩
    rintro d ⟨⟩
    exact ⟨⟨β, g0, by simp⟩, fun b' hb' => hs.opd_live hx b' (by simpa [D.names, E.names, C.names] using hb')⟩

theorem run_lenSlice {t el : TypeId} {w : World} {a : Option Addr} {n c : Nat} {ty : TypeId} (ht : sliceB P t el = true) : (Builtin.len_ #[t] ty #[.slice a n c]).run P w = .ok (goInt n) w := by
  unfold sliceB at ht
  split at ht
  · rename_i e' hu
    unfold Builtin.len_
    refine run_then (run_underlying' hu w) ?_
    rfl
  · cases ht

theorem run_builtin {b : Builtin} {as : Array Operand} {ts : Array TypeId} {ρ : Operand → Value} {ty : TypeId} {w w' : World} {n : Next} (h : ∀ cs, (builtin b ts ty cs (as.map ρ)).run P w = .ok n w') :
    (do let d ← resolve ρ ⟨.builtin b, as, ts⟩ ty; invoke d.target d.args : Sem Next).run P w = .ok n w' := by
  simp only [resolve]
  exact h _

/-- The operand's length, if it is a slice. -/
inductive LenOf : D → List (Nat × Blk) → Nat → Prop where
  | own (b e : Nat) (rows : List (List T)) : LenOf (.e (.one (.own b))) [(b, .vec e rows)] rows.length
  | sl (rows : List (List T)) : LenOf (one (.sl rows)) [] rows.length
  | nil : LenOf (one .nil0) [] 0

theorem SimG.lenOf {G : Gh} {a : Act} {w : World} (h : SimG P X G st a w) {x : Operand} {d : D} {rb : List (Nat × Blk)} {n : Nat} (hx : Lift.opd st.env x = some d) (hl : LenOf d rb n) (hb : preB st.bx rb) :
    ∃ b c, a.eval x = .slice b n c := by
  have hR := h.opd hx
  cases hl with
  | own b e rows =>
    obtain ⟨hR, _⟩ : RdC P w G (a.eval x) (.own b) := hR
    rcases h.blk b _ hb.1 with ⟨a', h1, h0, _⟩ | ⟨β, cap, arr, el', g0, g1, _⟩
    · subst h0; exact ⟨_, _, hR.trans h1⟩
    · exact ⟨_, _, hR.trans g1⟩
  | sl rows =>
    have hR : RdT w G.S (a.eval x) (.sl rows) := hR
    generalize a.eval x = v at hR
    cases hR with
    | nil a cap => exact ⟨_, _, rfl⟩
    | sl β off cap e' arr el' fz rows h1 h2 h3 h4 h5 h6 => exact ⟨_, _, rfl⟩
  | nil =>
    have hR : RdT w G.S (a.eval x) .nil0 := hR
    generalize a.eval x = v at hR
    cases hR; exact ⟨_, _, rfl⟩

theorem r_len {x : Operand} {d : D} {s n0 n : Nat} {t el : TypeId} {rb : List (Nat × Blk)} (hat : At st.env ops i X.n (.call ⟨.builtin .len, #[x], #[t]⟩) s gs)
    (hx : opd st.env x = some d) (hl : LenOf d rb n0) (hb : preB st.bx rb) (hln : n0 = n) (ht : sliceB P t el = true)
    (next : Run P X ops dr Q r (i + 1) (Loc.upd ⟨gs ++ [(x, d)], rb, some s, some (vD (.int .i64 n)), [], []⟩ st) ((i, ⟨gs ++ [(x, d)], rb, some s, some (vD (.int .i64 n)), [], []⟩) :: log)) : Run P X ops dr Q (r + 1) i st log := by
  subst hln
  obtain ⟨o, ho, hop, hd, hn, hg, hgp⟩ := hat.out
  refine Run.step next ⟨preR_append.2 ⟨hgp, hx, trivial⟩, hb, trivial⟩ (LR.value ho hg rfl hd.symm (hn_of hd hn) ?_)
  intro G st a w hs hpre
  obtain ⟨hx, _⟩ := (preR_append.1 hpre.r).2
  obtain ⟨b, c, he⟩ := hs.lenOf hx hl hpre.b
  refine ⟨.int .i64 n0, w, G, ?_, hs, ?_⟩
  · simp only [execOp, hop]
    refine run_builtin fun cs => ?_
    simp only [List.map_toArray, List.map_cons, List.map_nil, builtin, he]
    exact run_then (run_lenSlice ht) rfl
  · rintro d ⟨⟩
    exact ⟨.val _ rfl, fun b hb => by cases hb⟩

/-! Numbers. -/
def BinRun (P : Program) (op : BinOp) (xt : TypeId) (x y : Operand) (va vb v : Value) : Prop := ∀ w : World, (do eqGuard op xt x y va vb; binOp op xt va vb : Sem Value).run P w = .ok v w
def UnRun (P : Program) (op : UnOp) (va v : Value) : Prop := ∀ w : World, (Op.unary op va).run P w = .ok v w
def ConvRun (P : Program) (s t : TypeId) (va v : Value) : Prop := ∀ w : World, (convert s t va).run P w = .ok v w

theorem r_bin {op : BinOp} {xt yt : TypeId} {x y : Operand} {va vb v : Value} {s : Nat} (hat : At st.env ops i X.n (.binOp op xt x y yt) s gs)
    (hx : opd st.env x = some (vD va)) (hy : opd st.env y = some (vD vb)) (hrun : BinRun P op xt x y va vb v) (h1 : oneC v = true)
    (next : Run P X ops dr Q r (i + 1) (Loc.upd ⟨gs ++ [(x, vD va), (y, vD vb)], [], some s, some (vD v), [], []⟩ st) ((i, ⟨gs ++ [(x, vD va), (y, vD vb)], [], some s, some (vD v), [], []⟩) :: log)) : Run P X ops dr Q (r + 1) i st log := by
  obtain ⟨o, ho, hop, hd, hn, hg, hgp⟩ := hat.out
  refine Run.step next ⟨preR_append.2 ⟨hgp, hx, hy, trivial⟩, trivial, trivial⟩ (LR.value ho hg rfl hd.symm (hn_of hd hn) ?_)
  intro G st a w hs hpre
  obtain ⟨hx, hy, _⟩ := (preR_append.1 hpre.r).2
  have hX : a.eval x = va := val_eq (hs.opd hx : RdT w G.S (a.eval x) (.val _))
  have hY : a.eval y = vb := val_eq (hs.opd hy : RdT w G.S (a.eval y) (.val _))
  refine ⟨v, w, G, ?_, hs, ?_⟩
  · simp only [execOp, hop, hX, hY]
    exact run_then (hrun w) rfl
  · rintro d ⟨⟩
    exact ⟨.val _ h1, fun b hb => by cases hb⟩

theorem r_un {op : UnOp} {xt : TypeId} {x : Operand} {va v : Value} {s : Nat} (hat : At st.env ops i X.n (.unOp op xt x) s gs)
    (hx : opd st.env x = some (vD va)) (hrun : UnRun P op va v) (h1 : oneC v = true)
    (next : Run P X ops dr Q r (i + 1) (Loc.upd ⟨gs ++ [(x, vD va)], [], some s, some (vD v), [], []⟩ st) ((i, ⟨gs ++ [(x, vD va)], [], some s, some (vD v), [], []⟩) :: log)) : Run P X ops dr Q (r + 1) i st log := by
  obtain ⟨o, ho, hop, hd, hn, hg, hgp⟩ := hat.out
  refine Run.step next ⟨preR_append.2 ⟨hgp, hx, trivial⟩, trivial, trivial⟩ (LR.value ho hg rfl hd.symm (hn_of hd hn) ?_)
  intro G st a w hs hpre
  obtain ⟨hx, _⟩ := (preR_append.1 hpre.r).2
  have hX : a.eval x = va := val_eq (hs.opd hx : RdT w G.S (a.eval x) (.val _))
  refine ⟨v, w, G, ?_, hs, ?_⟩
  · simp only [execOp, hop, hX]
    exact run_then (hrun w) rfl
  · rintro d ⟨⟩
    exact ⟨.val _ h1, fun b hb => by cases hb⟩

theorem r_conv {xt yt : TypeId} {x : Operand} {va v : Value} {s : Nat} (hat : At st.env ops i X.n (.convert xt yt x) s gs)
    (hx : opd st.env x = some (vD va)) (hrun : ConvRun P xt yt va v) (h1 : oneC v = true)
    (next : Run P X ops dr Q r (i + 1) (Loc.upd ⟨gs ++ [(x, vD va)], [], some s, some (vD v), [], []⟩ st) ((i, ⟨gs ++ [(x, vD va)], [], some s, some (vD v), [], []⟩) :: log)) : Run P X ops dr Q (r + 1) i st log := by
  obtain ⟨o, ho, hop, hd, hn, hg, hgp⟩ := hat.out
  refine Run.step next ⟨preR_append.2 ⟨hgp, hx, trivial⟩, trivial, trivial⟩ (LR.value ho hg rfl hd.symm (hn_of hd hn) ?_)
  intro G st a w hs hpre
  obtain ⟨hx, _⟩ := (preR_append.1 hpre.r).2
  have hX : a.eval x = va := val_eq (hs.opd hx : RdT w G.S (a.eval x) (.val _))
  refine ⟨v, w, G, ?_, hs, ?_⟩
  · simp only [execOp, hop, hX]
    exact run_then (hrun w) rfl
  · rintro d ⟨⟩
    exact ⟨.val _ h1, fun b hb => by cases hb⟩

theorem bin_add (xt : TypeId) (x y : Operand) (k : IntKind) (a b : Int) : BinRun P .add xt x y (.int k a) (.int k b) (.int k (k.wrap (a + b))) := fun w => by simp [eqGuard, binOp, Op.intArith]
theorem bin_sub (xt : TypeId) (x y : Operand) (k : IntKind) (a b : Int) : BinRun P .sub xt x y (.int k a) (.int k b) (.int k (k.wrap (a - b))) := fun w => by simp [eqGuard, binOp, Op.intArith]
theorem bin_mul (xt : TypeId) (x y : Operand) (k : IntKind) (a b : Int) : BinRun P .mul xt x y (.int k a) (.int k b) (.int k (k.wrap (a * b))) := fun w => by simp [eqGuard, binOp, Op.intArith]
theorem bin_quo (xt : TypeId) (x y : Operand) (k : IntKind) (a b : Int) (h : b ≠ 0) : BinRun P .quo xt x y (.int k a) (.int k b) (.int k (k.wrap (a.tdiv b))) := fun w => by simp [eqGuard, binOp, Op.intDiv, h]
theorem bin_rem (xt : TypeId) (x y : Operand) (k : IntKind) (a b : Int) (h : b ≠ 0) : BinRun P .rem xt x y (.int k a) (.int k b) (.int k (a.tmod b)) := fun w => by simp [eqGuard, binOp, Op.intDiv, h]
def andI (k : IntKind) (a b : Int) : Int := k.wrap (BitVec.ofInt k.bits a &&& BitVec.ofInt k.bits b).toNat
def orI (k : IntKind) (a b : Int) : Int := k.wrap (BitVec.ofInt k.bits a ||| BitVec.ofInt k.bits b).toNat
def xorI (k : IntKind) (a b : Int) : Int := k.wrap (BitVec.ofInt k.bits a ^^^ BitVec.ofInt k.bits b).toNat
def andNotI (k : IntKind) (a b : Int) : Int := k.wrap (BitVec.ofInt k.bits a &&& ~~~BitVec.ofInt k.bits b).toNat
def shlI (k : IntKind) (a b : Int) : Int := k.wrap (a * 2 ^ min b.toNat k.bits)
def shrI (k : IntKind) (a b : Int) : Int := a.fdiv (2 ^ min b.toNat k.bits)
theorem bin_and (xt : TypeId) (x y : Operand) (k : IntKind) (a b : Int) : BinRun P .and xt x y (.int k a) (.int k b) (.int k (andI k a b)) := fun w => by simp [eqGuard, binOp, Op.intBits, andI]
theorem bin_or (xt : TypeId) (x y : Operand) (k : IntKind) (a b : Int) : BinRun P .or xt x y (.int k a) (.int k b) (.int k (orI k a b)) := fun w => by simp [eqGuard, binOp, Op.intBits, orI]
theorem bin_xor (xt : TypeId) (x y : Operand) (k : IntKind) (a b : Int) : BinRun P .xor xt x y (.int k a) (.int k b) (.int k (xorI k a b)) := fun w => by simp [eqGuard, binOp, Op.intBits, xorI]
theorem bin_andNot (xt : TypeId) (x y : Operand) (k : IntKind) (a b : Int) : BinRun P .andNot xt x y (.int k a) (.int k b) (.int k (andNotI k a b)) := fun w => by simp [eqGuard, binOp, Op.intBits, andNotI]
theorem bin_shl (xt : TypeId) (x y : Operand) (k k' : IntKind) (a b : Int) (h : 0 ≤ b) : BinRun P .shl xt x y (.int k a) (.int k' b) (.int k (shlI k a b)) := fun w => by
  simp [eqGuard, binOp, Op.shift, shlI, show ¬ b < 0 from by omega]
theorem bin_shr (xt : TypeId) (x y : Operand) (k k' : IntKind) (a b : Int) (h : 0 ≤ b) : BinRun P .shr xt x y (.int k a) (.int k' b) (.int k (shrI k a b)) := fun w => by
  simp [eqGuard, binOp, Op.shift, shrI, show ¬ b < 0 from by omega]
theorem bin_eql (xt : TypeId) (x y : Operand) (k : IntKind) (a b : Int) : BinRun P .eql xt x y (.int k a) (.int k b) (.bool (a == b)) := fun w => by simp [eqGuard, binOp, Op.intCmp]
theorem bin_neq (xt : TypeId) (x y : Operand) (k : IntKind) (a b : Int) : BinRun P .neq xt x y (.int k a) (.int k b) (.bool (a != b)) := fun w => by simp [eqGuard, binOp, Op.intCmp]
theorem bin_lss (xt : TypeId) (x y : Operand) (k : IntKind) (a b : Int) : BinRun P .lss xt x y (.int k a) (.int k b) (.bool (decide (a < b))) := fun w => by simp [eqGuard, binOp, Op.intCmp]
theorem bin_leq (xt : TypeId) (x y : Operand) (k : IntKind) (a b : Int) : BinRun P .leq xt x y (.int k a) (.int k b) (.bool (decide (a ≤ b))) := fun w => by simp [eqGuard, binOp, Op.intCmp]
theorem bin_gtr (xt : TypeId) (x y : Operand) (k : IntKind) (a b : Int) : BinRun P .gtr xt x y (.int k a) (.int k b) (.bool (decide (b < a))) := fun w => by simp [eqGuard, binOp, Op.intCmp]
theorem bin_geq (xt : TypeId) (x y : Operand) (k : IntKind) (a b : Int) : BinRun P .geq xt x y (.int k a) (.int k b) (.bool (decide (b ≤ a))) := fun w => by simp [eqGuard, binOp, Op.intCmp]
def boolB (P : Program) (t : TypeId) : Bool := match P.underlying t with | some .bool => true | _ => false
theorem run_eqBool {t : TypeId} (ht : boolB P t = true) (a b : Bool) (w : World) : (Op.equal t (.bool a) (.bool b)).run P w = .ok (a == b) w := by
  unfold boolB at ht
  split at ht
  · rename_i hu
    unfold Op.equal Op.maxDepth Op.equalIn
    refine run_then (run_underlying' hu w) ?_
    rfl
  · cases ht
theorem bin_eqlB {xt : TypeId} (x y : Operand) (a b : Bool) (ht : boolB P xt = true) : BinRun P .eql xt x y (.bool a) (.bool b) (.bool (a == b)) := fun w => by
  simp only [eqGuard, binOp]
  refine run_then (a := ()) (w1 := w) (by simp) ?_
  exact run_then (run_eqBool ht a b w) rfl
theorem bin_neqB {xt : TypeId} (x y : Operand) (a b : Bool) (ht : boolB P xt = true) : BinRun P .neq xt x y (.bool a) (.bool b) (.bool (!(a == b))) := fun w => by
  simp only [eqGuard, binOp]
  refine run_then (a := ()) (w1 := w) (by simp) ?_
  exact run_then (run_eqBool ht a b w) rfl
theorem bin_str (op : BinOp) (hop : op ≠ .shl ∧ op ≠ .shr) (xt : TypeId) (x y : Operand) (a b : ByteArray) (v : Value) (h : ∀ w : World, (Op.stringOp op a b).run P w = .ok v w) : BinRun P op xt x y (.string a) (.string b) v := fun w => by
  have h1 : (eqGuard op xt x y (.string a) (.string b)).run P w = .ok () w := by cases op <;> simp [eqGuard]
  refine run_then h1 ?_
  have h2 : binOp op xt (.string a) (.string b) = Op.stringOp op a b := by cases op <;> first | rfl | (exfalso; exact hop.1 rfl) | (exfalso; exact hop.2 rfl)
  rw [h2]; exact h w
theorem un_not (b : Bool) : UnRun P .not (.bool b) (.bool (!b)) := fun w => rfl
theorem un_neg (k : IntKind) (n : Int) : UnRun P .neg (.int k n) (.int k (k.wrap (0 - n))) := fun w => rfl
def intB (P : Program) (t : TypeId) (k : IntKind) : Bool := match P.underlying t with | some (.int k') => k' == k | _ => false
theorem conv_int {s t : TypeId} {k : IntKind} (hs : (P.underlying s).isSome = true) (ht : intB P t k = true) (k' : IntKind) (n : Int) : ConvRun P s t (.int k' n) (.int k (k.wrap n)) := fun w => by
  unfold intB at ht
  split at ht
  · rename_i k2 hu
    have : k2 = k := by simpa using ht
    subst this
    obtain ⟨d, hd⟩ := Option.isSome_iff_exists.1 hs
    unfold convert
    refine run_then (run_underlying' hd w) ?_
    refine run_then (run_underlying' hu w) ?_
    cases d <;> rfl
  · cases ht

/-- A pick between two values. -/
theorem r_pick {c x y : Operand} {b : Bool} {d : D} {z : Operand} {s : Nat} (hat : At st.env ops i X.n (.pick c x y) s gs)
    (hc : opd st.env c = some (bD b)) (hz : (if b then x else y) = z) (hx : opd st.env z = some d)
    (next : Run P X ops dr Q r (i + 1) (Loc.upd ⟨gs ++ [(c, bD b), (z, d)], [], some s, some d, [], []⟩ st) ((i, ⟨gs ++ [(c, bD b), (z, d)], [], some s, some d, [], []⟩) :: log)) : Run P X ops dr Q (r + 1) i st log := by
  obtain ⟨o, ho, hop, hd, hn, hg, hgp⟩ := hat.out
  refine Run.step next ⟨preR_append.2 ⟨hgp, hc, hx, trivial⟩, trivial, trivial⟩ (LR.value ho hg rfl hd.symm (hn_of hd hn) ?_)
  intro G st a w hs hpre
  obtain ⟨hc, hx, _⟩ := (preR_append.1 hpre.r).2
  have hC : a.eval c = .bool b := val_eq (hs.opd hc : RdT w G.S (a.eval c) (.val _))
  refine ⟨a.eval z, w, G, ?_, hs, ?_⟩
  · simp only [execOp, hop, hC]
    subst hz
    cases b <;> rfl
  · rintro d ⟨⟩
    exact ⟨hs.opd hx, hs.opd_live hx⟩

theorem r_extract {x : Operand} {xs : List E} {y : E} {k s : Nat} (hat : At st.env ops i X.n (.extract x k) s gs)
    (hx : opd st.env x = some (.tup xs)) (hk : xs[k]? = some y)
    (next : Run P X ops dr Q r (i + 1) (Loc.upd ⟨gs ++ [(x, .tup xs)], [], some s, some (.e y), [], []⟩ st) ((i, ⟨gs ++ [(x, .tup xs)], [], some s, some (.e y), [], []⟩) :: log)) : Run P X ops dr Q (r + 1) i st log := by
  obtain ⟨o, ho, hop, hd, hn, hg, hgp⟩ := hat.out
  refine Run.step next ⟨preR_append.2 ⟨hgp, hx, trivial⟩, trivial, trivial⟩ (LR.value ho hg rfl hd.symm (hn_of hd hn) ?_)
  intro G st a w hs hpre
  obtain ⟨hx, _⟩ := (preR_append.1 hpre.r).2
  obtain ⟨vs, hv, hl, h⟩ : RdD P w G (a.eval x) (.tup xs) := hs.opd hx
  have hlt := lt_of_get hk
  refine ⟨cellAt vs k, w, G, ?_, hs, ?_⟩
  · simp only [execOp, hop, hv, Instr.extract]
    rw [cellAt_some (by omega)]
    rfl
  · rintro d ⟨⟩
    exact ⟨h k y hk, fun b hb => hs.opd_live hx b (mem_enames.2 ⟨y, List.mem_of_getElem? hk, hb⟩)⟩

end run
end Go.Lift
