/- Lemmas for TopFencedSaid, which YtdeiicbleafjaaaGreatFinT3 proves. -/
import Derived.Test.YtdeiicbleafjaaaGreatLift52
import Derived.Test.YtdeiicbleafjaaaGreatProg
import Derived.KernelRfl
open Array renaming replicate → xC, size_append → xB
open Bool renaming and_eq_true → zF
open Int renaming tmod → zI
open List renaming all_eq_true → zC, eq_nil_iff_forall_not_mem → xU, eq_nil_of_length_eq_zero → zO, getElem?_eq_getElem → yB, getElem?_map → zG, isEmpty_iff → xO, length → y8, length_map → zJ, map_congr_left → y5, map_cons → zN, map_nil → yY, map_toArray → yN, mem_cons → zY, mem_map → yH, range → yQ, replicate → zK
open Nat renaming add_mul → zS, add_sub_cancel_left → yC, add_zero → yS, ble → y7, blt_eq → yP, le_of_ble_eq_true → zT, le_refl → yD, le_trans → xJ, lt_irrefl → zZ, min → yI, mul_le_mul_right → zD, zero_add → zH
open Option renaming getD_some → yK
open Go.Proofs.Tryz renaming prog → zA
namespace Go.Lift
open List renaming mem_of_getElem? → lM
open Go.RowKit
variable {P : Program} {X : GX} {ops : Array Oper}
def Hz (sb : ByteArray) : List (List T) := sb.data.toList.map fun b => [.val (.int .u8 (b.toNat : Int))]
theorem H6 (sb : ByteArray) : (Hz sb).length = sb.size := by
 unfold Hz
 rw [zJ]; rfl
theorem LX {w : World} {S : Nat → Prop} {sb : ByteArray} {rows2 : List (List T)} (h : Hz sb = rows2) : ∃ news, (∀ w' : World, (Builtin.firstCells 1 rows2.length (.string sb)).run P w' = .ok news w') ∧ Ck w S news 1 0 rows2 ∧ news.size = rows2.length * 1 := by
 subst h
 have hx : sb.extract 0 (Hz sb).length = sb := by rw [H6]; exact ByteArray.extract_zero_size
 refine ⟨sb.data.map fun b => .int .u8 (b.toNat : Int), fun w' => by simp only [Builtin.firstCells]; rw [hx]; rfl, ⟨?_, fun i row hi => ?_, fun i row j t hi hj => ?_⟩, ?_⟩
 ·rw [H6]; simp
 ·unfold Hz at hi
  rw [zG] at hi
  cases hb : sb.data.toList[i]? with
  | none => rw [hb] at hi; cases hi
  | some b => rw [hb] at hi; cases hi; rfl
 ·unfold Hz at hi
  rw [zG] at hi
  cases hb : sb.data.toList[i]? with
  | none => rw [hb] at hi; cases hi
  | some b =>
   rw [hb] at hi
   cases hi
   match j, hj with
   | 0, hj =>
    cases hj
    have hb' : sb.data[i]? = some b := by simpa using hb
    have : Aq (sb.data.map fun b => (.int .u8 (b.toNat : Int) : Value)) (0 + i * 1 + 0) = .int .u8 (b.toNat : Int) := by
     unfold Aq
     rw [zH, Nat.mul_one, yS, Array.getElem?_map, hb']; rfl
    rw [this]
    exact .val _ rfl
   | j + 1, hj => simp at hj
 ·rw [H6, Array.size_map, Nat.mul_one]; rfl
theorem Lz {t t2 el e bytes : Nat} {w : World} {z x : Value} {a : Option Addr} {n cap n2 : Nat} {sb : ByteArray} {olds news : Array Value} {ty : TypeId} (ht : sliceB P t el = true) (ht2 : HD P t2 = true) (he : E9 P el e = true) (hby : DA P el bytes = true) (hbs : bytes ≤ 4096)
  (hz : BM P el = some z) (hzs : z.cells.size = e) (hx : x = .string sb) (hn2 : sb.size = n2) (hold : ∀ w' : World, w'.heap = w.heap → (Builtin.firstCells e n (.slice a n cap)).run P w' = .ok olds w') (hnew : ∀ w' : World, w'.heap = w.heap → (Builtin.firstCells e n2 x).run P w' = .ok news w') (hlim : n + n2 ≤ Hj) (_hcap : n ≤ cap) :
  (n + n2 ≤ cap ∧ ∀ w' : World, (∀ p, a = some p → (storeCells (p.add (n * e)) news.toList).run P w = .ok () w') → (a = none → w' = w) → (Builtin.append_ #[t, t2] ty #[.slice a n cap, x]).run P w = .ok (.slice a (n + n2) cap) w') ∨
  (cap < n + n2 ∧ ∃ c rest, n + n2 ≤ c ∧ (Builtin.append_ #[t, t2] ty #[.slice a n cap, x]).run P w = .ok (.slice (some ⟨w.heap.size, 0, none⟩) (n + n2) c) (w.drew.alloc (.cells (olds ++ news ++ rest) el)) ∧ rest.size = (c - (n + n2)) * e) := by
 unfold sliceB at ht
 unfold HD at ht2
 split at ht
 ·rename_i e' hu
  split at ht2
  ·rename_i hu2
   have : e' = el := by simpa using ht
   subst this
   unfold DA at hby
   split at hby
   ·rename_i inf hinf
    have hbytes : inf.bytes = bytes := by simpa using hby
    have hsize : inf.size = e := by unfold E9 at he; rw [hinf] at he; simpa using he
    have hzero : inf.zero = some z := by unfold BM at hz; rw [hinf] at hz; simpa using hz
    have hlen : ∀ w' : World, (Builtin.lenOf x).run P w' = .ok n2 w' := fun w' => by rw [hx, ← hn2]; rfl
    have hst : ∀ w' : World, (sizeOf e').run P w' = .ok e w' := fun w' => CZ he w'
    by_cases hfit : n + n2 ≤ cap
    ·refine .inl ⟨hfit, fun w' hp hno => ?_⟩
     unfold Builtin.append_
     refine Ah (Ax hu w) ?_
     refine Ah (hst w) ?_
     refine Ah (Ax hu2 w) ?_
     refine Ah (a := false) (w1 := w) rfl ?_
     refine Ah (hlen w) ?_
     simp only [hfit, if_true]
     refine Ah (hnew w rfl) ?_
     cases a with
     | none => rw [hno rfl]; rfl
     | some p => exact Ah (hp p rfl) rfl
    ·refine .inr ⟨by omega, ?_⟩
     have hnc : Builtin.nextslicecap (n + n2) cap * inf.bytes ≤ 281474976710656 := growslice_fits (by omega) (by
      rw [hbytes]
      exact xJ (Nat.mul_le_mul hlim hbs) RP)
     obtain ⟨c, hc1, hc2⟩ := JE (P := P) (need := n + n2) (cap := cap) (el := e') (w := w)
     refine ⟨c, Builtin.zeroCells z.cells (c - (n + n2)), hc1, ?_, by simp [Builtin.zeroCells, hzs]⟩
     have hc3 : ¬ (((n + n2 : Nat) : Int) > IntKind.i64.max ∧ (false = true ∨ inf.bytes = 0)) := by
      have h1 : IntKind.i64.max = 9223372036854775807 := rfl
      have h2 : Hj = 4294967296 := by simp [Hj]
      rw [h1]; omega
     have hc4 : ¬ (Builtin.nextslicecap (n + n2) cap * inf.bytes > 2 ^ 48) := by omega
     unfold Builtin.append_
     refine Ah (Ax hu w) ?_
     refine Ah (hst w) ?_
     refine Ah (Ax hu2 w) ?_
     refine Ah (a := false) (w1 := w) rfl ?_
     refine Ah (hlen w) ?_
     simp only [hfit, if_false]
     refine Ah (EF hinf w) ?_
     rw [if_neg hc3]
     refine Ah (EF hinf w) ?_
     rw [if_neg hc4]
     refine Ah hc2 ?_
     refine Ah (EF hinf w.drew) ?_
     refine Ah (run_askRoom P w.drew _) ?_
     refine Ah (hold w.drew rfl) ?_
     refine Ah (hnew w.drew rfl) ?_
     refine Ah (C1 hz w.drew) ?_
     rfl
   ·cases hby
  ·cases ht2
 ·cases ht
section run
variable {dr : Bool} {Q : St → Prop} {r i : Nat} {st : St} {log : List (Nat × Bx)} {o : Oper} {gs : List (Operand × D)}
theorem Qd {x y : Operand} {t t2 el s bytes : Nat} {d : D} {rb : List (Nat × A4)} {gn : List Nat} {rows rows2 rows' : List (List T)} {sb : ByteArray} {z : Value} (hat : At st.env ops i X.n (.call ⟨.builtin .append, #[x, y], #[t, t2]⟩) s gs)
  (hx : opd st.env x = some d) (hD : Tq d rb gn 1 rows) (hb : Fx st.bx rb) (hy : opd st.env y = some (vD (.string sb))) (hS : Hz sb = rows2) (hnew : st.bx s = none)
  (ht : sliceB P t el = true) (ht2 : HD P t2 = true) (he : E9 P el 1 = true) (hby : DA P el bytes = true) (hbs : bytes ≤ 4096) (hz : BM P el = some z) (hzs : z.cells.size = 1) (hlim : rows.length + rows2.length ≤ Hj) (hr : rows ++ rows2 = rows') (hle : gn.all (fun b => !AU b) = true)
  (next : AY P X ops dr Q r (i + 1) (Bx.upd ⟨gs ++ [(x, d), (y, vD (.string sb))], rb, some s, some (.e (.one (.own s))), (s, .vec 1 rows') :: Co gn, [s]⟩ st) ((i, ⟨gs ++ [(x, d), (y, vD (.string sb))], rb, some s, some (.e (.one (.own s))), (s, .vec 1 rows') :: Co gn, [s]⟩) :: log)) : AY P X ops dr Q (r + 1) i st log := by
 obtain ⟨o, ho, hop, hd, hn, hg, hgp⟩ := hat.out
 refine AY.step next ⟨Ak.2 ⟨hgp, hx, hy, trivial⟩, hb, hnew, trivial⟩ (LR.value ho hg rfl hd.symm (BN hd hn) ?_)
 intro G st a w hs hpre
 obtain ⟨hx, hy, _⟩ := (Ak.1 hpre.r).2
 have hb := hpre.b
 have hnew := hpre.n.1
 subst hr
 have hy1 : a.eval y = .string sb := Cx (hs.opd hy : Ca w G.S (a.eval y) (.val _))
 obtain ⟨news, hy3', hy4, hy5⟩ := LX (P := P) (w := w) (S := G.S) hS
 have hy3 : ∀ w' : World, w'.heap = w.heap → (Builtin.firstCells 1 rows2.length (a.eval y)).run P w' = .ok news w' := fun w' _ => by rw [hy1]; exact hy3' w'
 have hrl : sb.size = rows2.length := by rw [← hS]; exact (H6 sb).symm
 have hlen2 : news.toList.length = rows2.length * 1 := by simp [hy5]
 have hdn := Le hD hb
 have hout : ∀ (w' : World) (G' : Gh) (v : Value), G'.hd s = v → (∃ a l c, v = .slice a l c) → FB P w' G' v (.e (.one (.own s))) ∧ ∀ b, b ∈ (D.e (.one (.own s))).names → ((AV st.bx ((s, .vec 1 (rows ++ rows2)) :: Co gn)) b).isSome = true := by
  intro w' G' v h1 h2
  refine ⟨⟨h1.symm, h2⟩, fun b hb => ?_⟩
  simp [D.names, E.names, C.names] at hb
  subst hb; simp [AV]
 have hrun : ∀ (v : Value) (w' : World), (Builtin.append_ #[t, t2] o.type #[a.eval x, a.eval y]).run P w = .ok v w' → (execOp a.eval o).run P w = .ok (.value v) w' := by
  intro v w' h
  simp only [execOp, hop]
  refine C5 fun cs => ?_
  simp only [yN, zN, yY, builtin]
  exact Ah h rfl
 rcases hs.dst hx hD hb with ⟨a0, hx1, hrows⟩ | ⟨b, β, cap, arr, el', hgn, hbb, hβ, hx1, hx2, hx3, hx4, hx5⟩
 ·subst hrows
  obtain ⟨olds, k1, k2, k3⟩ := B1 (P := P) (w := w) (a := a0) (len := 0) (cap := 0) (e := 1) (S := G.S)
  rcases Lz (ty := o.type) (a := a0) (n := 0) (cap := 0) ht ht2 he hby hbs hz hzs hy1 hrl k1 hy3 (by simpa using hlim) (yD _) with ⟨hfit, hrun1⟩ | ⟨hfit, c, rest, hc1, hrun1, hrest⟩
  ·have hr0 : rows2 = [] := zO (by omega)
   subst hr0
   have hn0 : news.toList = [] := zO (by simpa using hlen2)
   have hrun2 := hrun1 w (fun p _ => by rw [hn0]; rfl) (fun _ => rfl)
   rw [← hx1] at hrun2
   refine ⟨_, w, G.set s none (.slice a0 0 0), hrun _ _ hrun2, ?_, ?_⟩
   ·exact hs.newVec (hs.nl hn) hnew hdn (fun β h => by cases h) (fun γ _ _ => rfl) (yD _) hs.below (.inl ⟨a0, by simp [Gh.set], rfl, by simp [Gh.set]⟩)
   ·rintro d' ⟨⟩
    exact hout _ _ _ (by simp [Gh.set]) ⟨_, _, _, rfl⟩
  ·rw [← hx1] at hrun1
   have hsz : (w.drew.alloc (.cells (olds ++ news ++ rest) el)).heap.size = w.heap.size + 1 := by show (w.heap.push _).size = _; simp
   have hheap : ∀ γ, γ < w.heap.size → (w.drew.alloc (.cells (olds ++ news ++ rest) el)).heap[γ]? = w.heap[γ]? := fun γ hγ => by rw [Bi, if_neg (by rw [BR]; omega)]; rfl
   have hat : (w.drew.alloc (.cells (olds ++ news ++ rest) el)).heap[w.heap.size]? = some (.cells (olds ++ news ++ rest) el) := by rw [Bi, BR, if_pos rfl]
   refine ⟨_, _, G.set s (some w.heap.size) (.slice (some ⟨w.heap.size, 0, none⟩) rows2.length c), hrun _ _ (by rw [zH] at hrun1; exact hrun1), ?_, ?_⟩
   ·refine hs.newVec (hs.nl hn) hnew hdn ?_ (fun γ h1 _ => hheap γ h1) (by omega) ?_ ?_
    ·rintro β ⟨⟩
     exact ⟨hs.below.size, by omega, fun h => zZ _ (hs.S_lt _ h), fun b k hk hr hb => absurd (hs.at_ok b k _ hk hr hb).2.1 (zZ _)⟩
    ·exact (hs.below.drew).alloc (by rw [BR]; exact hs.below.size) _
    ·have hap := CI (_off := 0) (f := fun j => Aq (olds ++ news ++ rest) j) k2 hy4 (fun j hj => by simp at hj) (fun j hj => by
       simp only [List.length_nil, Nat.zero_mul, zH]
       rw [AQ (by simp [k3]; omega), B8 (by omega), k3, Nat.sub_zero])
     refine .inr ⟨w.heap.size, c, _, el, by simp [Gh.set], by simp [Gh.set], hat, by simpa using hc1, ?_, hap.1, fun i row j t hi hj => (hap.2 i row j t hi hj).mono (fun γ hγ => hheap γ (hs.S_lt γ hγ)) fun _ h => h⟩
     simp only [xB, k3, hy5, hrest, zH]
     rw [← zS]; congr 1; omega
   ·rintro d' ⟨⟩
    exact hout _ _ _ (by simp [Gh.set]) ⟨_, _, _, rfl⟩
 ·obtain ⟨olds, k1, k2, k3⟩ := DD (P := P) (len := rows.length) (cap := cap) hx2 hx5
  have hatb := hs.at_ok b _ β hbb rfl (.inl hβ)
  rcases Lz (ty := o.type) (a := some ⟨β, 0, none⟩) (n := rows.length) (cap := cap) ht ht2 he hby hbs hz hzs hy1 hrl k1 hy3 hlim hx3 with ⟨hfit, hrun1⟩ | ⟨hfit, c, rest, hc1, hrun1, hrest⟩
  ·have hbnd : rows.length * 1 + rows2.length * 1 ≤ arr.size := by rw [hx4, ← zS]; exact zD 1 hfit
   have hst := CD (P := P) (β := β) (el := el') news.toList w (rows.length * 1) 0 arr hx2 (by rw [hlen2]; omega) (Ck.ones hy4 hy5)
   rw [yS] at hst
   have hrun2 := hrun1 _ (fun p hp => by cases hp; rw [Addr.add_mk, zH]; exact hst) (fun h => by cases h)
   rw [← hx1] at hrun2
   have hheap : ∀ γ, γ ≠ β → (DS w β (.cells (CU arr (rows.length * 1) news.toList) el' (0, 0))).heap[γ]? = w.heap[γ]? := fun γ hγ => by rw [BS, if_neg (fun h => hγ h.1)]
   have hszw : (DS w β (.cells (CU arr (rows.length * 1) news.toList) el' (0, 0))).heap.size = w.heap.size := by simp [DS]
   have hov : ∀ j, Aq (CU arr (rows.length * 1) news.toList) j = if rows.length * 1 ≤ j ∧ j < rows.length * 1 + rows2.length * 1 then Aq news (j - rows.length * 1) else Aq arr j := fun j => by
    rw [CL _ _ _ _ (by rw [hlen2]; exact hbnd), hlen2, C0]
   refine ⟨_, _, G.set s (some β) (.slice (some ⟨β, 0, none⟩) (rows.length + rows2.length) cap), hrun _ _ hrun2, ?_, ?_⟩
   ·refine hs.newVec (hs.nl hn) hnew hdn ?_ (fun γ _ h2 => hheap γ fun e => h2 (by rw [e])) (by omega) (GW hs.below hatb.1.2 _) ?_
    ·rintro β' ⟨⟩
     exact ⟨hatb.1.1 (by subst hgn; simpa using hle), by omega, hatb.2.2, fun c k hk hr hc => by rw [hs.at_inj c b k _ _ hk hbb hr rfl hc (.inl hβ), hgn]; simp⟩
    ·have hap := CI (_off := 0) (f := fun j => Aq (CU arr (rows.length * 1) news.toList) j) hx5 hy4 (fun j hj => by rw [hov, if_neg (by omega)]) (fun j hj => by rw [hov, if_pos (by omega), yC])
     exact .inr ⟨β, cap, _, el', by simp [Gh.set], by simp [Gh.set], by rw [BS, if_pos ⟨rfl, hatb.2.1⟩], by simpa using hfit, by rw [DZ, hx4], hap.1, fun i row j t hi hj => (hap.2 i row j t hi hj).mono (fun γ hγ => hheap γ fun e => hatb.2.2 (e ▸ hγ)) fun _ h => h⟩
   ·rintro d' ⟨⟩
    exact hout _ _ _ (by simp [Gh.set]) ⟨_, _, _, rfl⟩
  ·rw [← hx1] at hrun1
   have hsz : (w.drew.alloc (.cells (olds ++ news ++ rest) el)).heap.size = w.heap.size + 1 := by show (w.heap.push _).size = _; simp
   have hheap : ∀ γ, γ < w.heap.size → (w.drew.alloc (.cells (olds ++ news ++ rest) el)).heap[γ]? = w.heap[γ]? := fun γ hγ => by rw [Bi, if_neg (by rw [BR]; omega)]; rfl
   have hat : (w.drew.alloc (.cells (olds ++ news ++ rest) el)).heap[w.heap.size]? = some (.cells (olds ++ news ++ rest) el) := by rw [Bi, BR, if_pos rfl]
   refine ⟨_, _, G.set s (some w.heap.size) (.slice (some ⟨w.heap.size, 0, none⟩) (rows.length + rows2.length) c), hrun _ _ hrun1, ?_, ?_⟩
   ·refine hs.newVec (hs.nl hn) hnew hdn ?_ (fun γ h1 _ => hheap γ h1) (by omega) ?_ ?_
    ·rintro β' ⟨⟩
     exact ⟨hs.below.size, by omega, fun h => zZ _ (hs.S_lt _ h), fun b k hk hr hb => absurd (hs.at_ok b k _ hk hr hb).2.1 (zZ _)⟩
    ·exact (hs.below.drew).alloc (by rw [BR]; exact hs.below.size) _
    ·have hap := CI (_off := 0) (f := fun j => Aq (olds ++ news ++ rest) j) k2 hy4 (fun j hj => by
       rw [AQ (by simp [k3]; omega), AQ (by omega)]) (fun j hj => by
       rw [AQ (by simp [k3, hy5]; omega), B8 (by omega), k3, yC])
     refine .inr ⟨w.heap.size, c, _, el, by simp [Gh.set], by simp [Gh.set], hat, by simpa using hc1, ?_, hap.1, fun i row j t hi hj => (hap.2 i row j t hi hj).mono (fun γ hγ => hheap γ (hs.S_lt γ hγ)) fun _ h => h⟩
     simp only [xB, k3, hy5, hrest]
     rw [← zS, ← zS]; congr 1; omega
   ·rintro d' ⟨⟩
    exact hout _ _ _ (by simp [Gh.set]) ⟨_, _, _, rfl⟩
theorem Oz {z : Value} {zs : List Value} {s : Nat} {el : TypeId} {rows : List (List T)} (hat : At st.env ops i X.n (.alloc el) s gs)
  (hz : BM P el = some z) (hzs : z.cells.toList = zs) (h1 : zs.all Fv = true) (hrows : (zs.map fun v => [(T.of v).nrm]) = rows) (hnew : st.bx s = none)
  (next : AY P X ops dr Q r (i + 1) (Bx.upd ⟨gs ++ [], [], some s, some (.e (.one (.eptr s 1 0 0))), (s, .vec 1 rows) :: Co [], [s]⟩ st) ((i, ⟨gs ++ [], [], some s, some (.e (.one (.eptr s 1 0 0))), (s, .vec 1 rows) :: Co [], [s]⟩) :: log)) : AY P X ops dr Q (r + 1) i st log := by
 obtain ⟨o, ho, hop, hd, hn, hg, hgp⟩ := hat.out
 subst hzs; subst hrows
 refine AY.step next ⟨Ak.2 ⟨hgp, trivial⟩, trivial, hnew, trivial⟩ (LR.value ho hg rfl hd.symm (BN hd hn) ?_)
 intro G st a w hs hpre
 have hnew := hpre.n.1
 have hsz : (w.alloc (.cells z.cells el)).heap.size = w.heap.size + 1 := by show (w.heap.push _).size = _; simp
 have hlen : (z.cells.toList.map fun v => [(T.of v).nrm]).length = z.cells.size := by simp
 refine ⟨.pointer (some ⟨w.heap.size, 0, none⟩), w.alloc (.cells z.cells el), G.set s (some w.heap.size) (.slice (some ⟨w.heap.size, 0, none⟩) (z.cells.toList.map fun v => [(T.of v).nrm]).length z.cells.size), ?_, ?_, ?_⟩
 ·simp only [execOp, hop, Instr.alloc]
  refine Ah (a := (.pointer (some ⟨w.heap.size, 0, none⟩))) (w1 := w.alloc (.cells z.cells el)) ?_ rfl
  refine Ah (C1 hz w) ?_
  simp [newVar, newRow]
 ·refine hs.newVec (gn := []) (hs.nl hn) hnew (fun b hb => by cases hb) ?_ (fun γ h1 _ => by rw [Bi, if_neg (by omega)]) (by omega) (hs.below.alloc hs.below.size _) ?_
  ·rintro β ⟨⟩
   exact ⟨hs.below.size, by omega, fun h => zZ _ (hs.S_lt _ h), fun b k hk hr hb => absurd (hs.at_ok b k _ hk hr hb).2.1 (zZ _)⟩
  ·refine .inr ⟨w.heap.size, z.cells.size, z.cells, el, by simp [Gh.set], by simp [Gh.set], by rw [Bi, if_pos rfl], by rw [hlen]; exact yD _, by rw [Nat.mul_one], fun i row hi => ?_, fun i row j t hi hj => ?_⟩
   ·rw [zG] at hi
    cases hv : z.cells.toList[i]? with
    | none => rw [hv] at hi; cases hi
    | some v => rw [hv] at hi; cases hi; rfl
   ·rw [zG] at hi
    cases hv : z.cells.toList[i]? with
    | none => rw [hv] at hi; cases hi
    | some v =>
     rw [hv] at hi
     cases hi
     match j, hj with
     | 0, hj =>
      cases hj
      have hv' : z.cells[i]? = some v := by simpa using hv
      have hc : Aq z.cells (i * 1 + 0) = v := by unfold Aq; rw [Nat.mul_one, yS, hv']; rfl
      rw [hc]
      exact (Ca.of (zC.1 h1 v (lM hv))).nrm
     | j + 1, hj => simp at hj
 ·rintro d ⟨⟩
  refine ⟨⟨w.heap.size, by simp [Gh.set], rfl⟩, ?_⟩
  intro b hb
  simp [D.names, E.names, C.names] at hb
  subst hb; simp [AV]
theorem DX {x y : Operand} {s b m : Nat} {rows : List (List T)} {row : List T} {t el : TypeId} {k : IntKind} {n : Int} (hat : At st.env ops i X.n (.indexAddr t x y) s gs)
  (hx : opd st.env x = some (.e (.one (.eptr b 1 0 0)))) (hy : opd st.env y = some (vD (.int k n))) (hb : st.bx b = some (.vec 1 rows)) (ht : Q7 P t m el = true) (hz : E9 P el 1 = true) (h0 : 0 ≤ n) (hrow : rows[n.toNat]? = some row) (hm : rows.length = m)
  (next : AY P X ops dr Q r (i + 1) (Bx.upd ⟨gs ++ [(x, .e (.one (.eptr b 1 0 0))), (y, vD (.int k n))], [(b, .vec 1 rows)], some s, some (.e (.one (.eptr b 1 n.toNat 0))), [], []⟩ st) ((i, ⟨gs ++ [(x, .e (.one (.eptr b 1 0 0))), (y, vD (.int k n))], [(b, .vec 1 rows)], some s, some (.e (.one (.eptr b 1 n.toNat 0))), [], []⟩) :: log)) : AY P X ops dr Q (r + 1) i st log := by
 obtain ⟨o, ho, hop, hd, hn, hg, hgp⟩ := hat.out
 refine AY.step next ⟨Ak.2 ⟨hgp, hx, hy, trivial⟩, ⟨hb, trivial⟩, trivial⟩ (LR.value ho hg rfl hd.symm (BN hd hn) ?_)
 intro G st a w hs hpre
 obtain ⟨hx, hy, _⟩ := (Ak.1 hpre.r).2
 obtain ⟨β, hβ, hv⟩ : Dj P w G (a.eval x) (.eptr b 1 0 0) := hs.opd hx
 have hY : a.eval y = .int k n := Cx (hs.opd hy : Ca w G.S (a.eval y) (.val _))
 have hlt := Au hrow
 refine ⟨.pointer (some ⟨β, n.toNat * 1 + 0, none⟩), w, G, ?_, hs, ?_⟩
 ·simp only [execOp, hop, hv, hY]
  refine Ah (a := .pointer (some ⟨β, n.toNat * 1 + 0, none⟩)) (w1 := w) ?_ rfl
  unfold Instr.indexAt
  refine Ah (a := (k, n)) (w1 := w) rfl ?_
  refine Ah (Ax (QI ht) w) ?_
  refine Ah (a := (some ⟨β, 0 * 1 + 0, none⟩, m, el)) (w1 := w) rfl ?_
  refine Ah (Ax (QI ht) w) ?_
  have hc : 0 ≤ n ∧ n < (m : Int) := ⟨h0, by omega⟩
  simp only [hc, and_self, if_true]
  refine Ah (CZ hz w) ?_
  simp [Addr.add_mk]
 ·rintro d ⟨⟩
  exact ⟨⟨β, hβ, rfl⟩, fun b' hb' => hs.opd_live hx b' (by simpa [D.names, E.names, C.names] using hb')⟩
end run
end Go.Lift
namespace Go.Lift
open List renaming mem_of_getElem? → lM
open List renaming getD_eq_getElem?_getD → lD
open Go.RowKit
variable {P : Program} {X : GX} {ops : Array Oper}
def O6 (n b : Nat) : Bool := Ex n 0 b || b == 90900
def O9 (n : Nat) (l : List Nat) : Bool := l.all (O6 n)
theorem SX {f : Nat → Nat} {tk : A4} (htkn : tk.names = []) : tk.ren f = tk := by
 cases tk with
 | box cs =>
  have : cs.map (C.ren f) = cs := by
   have h0 : CM cs = [] := htkn
   refine (y5 fun c hc => ?_).trans (List.map_id cs)
   have hcn : c.names = [] := xU.2 fun x hx => by
    have := A1.2 ⟨c, hc, hx⟩
    rw [h0] at this; cases this
   cases c with
   | cls f caps =>
    refine congrArg (C.cls f) ?_
    refine (y5 fun c hc => ?_).trans (List.map_id caps)
    have hcn2 : c.names = [] := xU.2 fun x hx => by
     have := EE.2 ⟨c, hc, hx⟩
     rw [show DC caps = [] from hcn] at this; cases this
    cases c <;> first | rfl | (simp [IK.names] at hcn2)
   | _ => first | rfl | (simp [C.names] at hcn)
  simp only [A4.ren]; rw [this]
 | hol e cols i k c rows => simp [A4.names] at htkn
 | _ => rfl
def Ef (P : Program) (f : FuncId) (args : List D) (lent : List (A4 × A4)) (tk : A4) (rv : List A4) (res : D) : Prop :=
 ∀ (w : World) (G : Gh) (vs : Array Value), (∀ β, G.S β → β < w.heap.size) → RW P w G.S →
  (∀ (k : Nat) (x : A4 × A4), lent[k]? = some x → B7 P w G (90000 + k) x.1) → B7 P w G 90900 tk →
  (∀ k β, k < lent.length → G.has (90000 + k) β → β < w.heap.size ∧ ¬ G.S β) → (∀ β, G.has 90900 β → β < w.heap.size ∧ ¬ G.S β) →
  (∀ k l β, k < lent.length → l < lent.length → G.has (90000 + k) β → G.has (90000 + l) β → k = l) → (∀ k β, k < lent.length → G.has (90000 + k) β → ¬ G.has 90900 β) →
  vs.size = args.length → (∀ (j : Nat) (d : D), args[j]? = some d → FB P w G (Aq vs j) d) →
  Calls P f vs w fun e w' => ∃ v G', e = .returned v ∧ BT (fun β => Lv G lent.length β ∨ G.has 90900 β) w.heap.size w w' ∧ (∀ β, G.S β → G'.S β) ∧ (∀ β, G'.S β → G.S β ∨ (w.heap.size ≤ β ∧ β < w'.heap.size)) ∧ FB P w' G' v res ∧
   (∀ (k : Nat) (x : A4 × A4), lent[k]? = some x → B7 P w' G' (90000 + k) x.2) ∧
   (∀ (k : Nat) (x : A4), rv[k]? = some x → B7 P w' G' k x) ∧
   (∀ k, k < lent.length → G'.loc (90000 + k) = G.loc (90000 + k) ∧ G'.hd (90000 + k) = G.hd (90000 + k) ∧ G'.more (90000 + k) = G.more (90000 + k)) ∧
   (∀ k β, k < lent.length → G'.has (90000 + k) β → ¬ G'.S β) ∧
   (∀ k β, k < rv.length → G'.has k β → (w.heap.size ≤ β ∨ G.has 90900 β) ∧ β < w'.heap.size ∧ ¬ G'.S β) ∧
   (∀ k l β, k < rv.length → l < rv.length → G'.has k β → G'.has l β → k = l)
def Ll (args : List D) (lent : List (A4 × A4)) (tk : A4) : St := ⟨fun s => args[s]?, fun b => if b = 90900 then some tk else if AU b then (lent[b - 90000]?).map (·.1) else none⟩
def Hf (ns : List Nat) (b : Nat) : Nat := if AU b then b else nm ns b
def NS (bx : Nat → Option A4) (f : Nat → Nat) (ns : List Nat) : Nat → List A4 → Prop
 | _, [] => True
 | k, x :: xs => bx (nm ns k) = some (x.ren f) ∧ NS bx f ns (k + 1) xs
theorem LB {bx : Nat → Option A4} {f : Nat → Nat} {ns : List Nat} : ∀ {l : List A4} {m : Nat}, NS bx f ns m l → ∀ (k : Nat) (x : A4), l[k]? = some x → bx (nm ns (m + k)) = some (x.ren f)
 | y :: rv, m, h, 0, x, hk => by simp at hk; subst hk; exact h.1
 | y :: rv, m, h, k + 1, x, hk => by
  have := LB h.2 k x (by simpa using hk)
  rwa [show m + 1 + k = m + (k + 1) from by omega] at this
structure PX (P : Program) (rs : List ResultVar) (st : St) (ns : List Nat) (lent : List (A4 × A4)) (rv : List A4) (res : D) : Prop where
 r : ∃ xs, Uo P st rs xs ∧ Ua xs = res.ren (Hf ns)
 l : LZ st.bx (Hf ns) 0 lent
 v : NS st.bx (Hf ns) ns 0 rv
theorem CK {f n : Nat} {fn : Func} {c : Code} {args : List D} {lent : List (A4 × A4)} {tk : A4} {rv : List A4} {res : D} {rs : List ResultVar} (ns : List Nat) (hf : P.funcs[f]? = some fn) (hb : fn.body = some c) (hn : fn.ntmps = n) (hrs : fn.results.toList = rs) (hl : args.length ≤ n) (hn9 : n ≤ 90000)
  (hargs : (args.all fun d => O9 lent.length d.names) = true) (hpre : (lent.all fun x => O9 lent.length x.1.names && x.1.real && x.2.real) = true) (htk : (tk.real && tk.names.isEmpty) = true) (hll : lent.length ≤ 900) (hrl : (rv.all fun x => x.real) = true) (hrn : rv.length ≤ 1000)
  (hns : ns.length = rv.length) (hnd : FA ns = true) (hnf : (ns.all fun n => !GB n) = true)
  (h : ∀ (w0 : World) (S0 : Nat → Prop) (GL : Gh), W P ⟨w0, S0, n, GL⟩ c (fun e st => match e with | .normal | .ret => PX P rs st ns lent rv res | _ => False) (Ll args lent tk)) : Ef P f args lent tk rv res := by
 subst hn; subst hrs
 intro w G vs hS hgk hlb htb hla hta hli hlt hlen hrd
 refine calls_of_wp hf hb ?_
 rw [zF, xO] at htk
 have hnd := Bf hnd
 have hcell : ∀ j, j < args.length → Aq (vs ++ xC (fn.ntmps - vs.size) undef) j = Aq vs j := fun j hj => AQ (by omega)
 -- the ghost that knows of what is lent or taken alone
 let dom : Nat → Prop := fun b => b = 90900 ∨ (AU b = true ∧ b - 90000 < lent.length)
 have hdec : ∀ b, Decidable (dom b) := fun b => inferInstanceAs (Decidable (_ ∨ _))
 let GL : Gh := { S := G.S, loc := fun b => if dom b then G.loc b else none, hd := fun b => if dom b then G.hd b else undef, more := fun b => if dom b then G.more b else fun _ => False }
 have hext : G.ext GL dom := ⟨fun _ h => h, fun b hb => if_pos hb, fun b hb => if_pos hb, fun b hb => if_pos hb⟩
 have hdomk : ∀ k, k < lent.length → dom (90000 + k) := fun k hk => .inr ⟨EL (by omega), by omega⟩
 have hdomt : dom 90900 := .inl rfl
 have hin : ∀ b, O6 lent.length b = true → dom b := by
  intro b hb
  unfold O6 at hb
  rw [Bool.or_eq_true, beq_iff_eq] at hb
  rcases hb with hb | hb
  ·unfold Ex at hb
   split at hb
   ·rename_i hl; exact .inr ⟨hl, by rwa [yP] at hb⟩
   ·simp [Nat.blt] at hb
  ·exact .inl hb
 have hhas : ∀ b β, GL.has b β → dom b ∧ G.has b β := by
  intro b β hb
  by_cases hd : dom b
  ·exact ⟨hd, (hext.has hd).1 hb⟩
  ·exfalso
   unfold Gh.has at hb
   simp only [GL] at hb
   rw [if_neg hd, if_neg hd] at hb
   rcases hb with h | h
   ·cases h
   ·exact h
 have hdomL : ∀ b, dom b → AU b = true := fun b hb => by
  rcases hb with rfl | hb
  ·rfl
  ·exact hb.1
 have hbk : ∀ b, AU b = true → b = 90000 + (b - 90000) := fun b hb => by obtain ⟨k, _, e⟩ := FV hb; omega
 have hlent : ∀ β, GL.lent β ↔ (Lv G lent.length β ∨ G.has 90900 β) := by
  intro β
  constructor
  ·rintro ⟨b, hb, hb2⟩
   obtain ⟨hd, hg⟩ := hhas b β hb2
   rcases hd with rfl | hd
   ·exact .inr hg
   ·rw [hbk b hb] at hg
    exact .inl ⟨b - 90000, hd.2, hg⟩
  ·rintro (⟨k, hk, hg⟩ | hg)
   ·exact ⟨90000 + k, EL (by omega), (hext.has (hdomk k hk)).2 hg⟩
   ·exact ⟨90900, rfl, (hext.has hdomt).2 hg⟩
 have hbx : ∀ b k, (Ll args lent tk).bx b = some k → (b = 90900 ∧ k = tk) ∨ (b ≠ 90900 ∧ dom b ∧ AU b = true ∧ ∃ x, lent[b - 90000]? = some x ∧ x.1 = k) := by
  intro b k hk
  simp only [Ll] at hk
  split at hk
  ·rename_i hb; cases hk; exact .inl ⟨hb, rfl⟩
  ·rename_i hne
   split at hk
   ·rename_i hb
    cases hx : lent[b - 90000]? with
    | none => rw [hx] at hk; cases hk
    | some x => rw [hx] at hk; cases hk; exact .inr ⟨hne, .inr ⟨hb, Au hx⟩, hb, x, rfl, rfl⟩
   ·cases hk
 have hdn : ∀ b, dom b → ((Ll args lent tk).bx b).isSome = true := by
  intro b hb
  simp only [Ll]
  split
  ·rfl
  ·rename_i hne
   rcases hb with h | hb
   ·exact absurd h hne
   ·rw [if_pos hb.1]
    simp [hb.2]
 have hpre' : ∀ x, x ∈ lent → O9 lent.length x.1.names = true ∧ x.1.real = true ∧ x.2.real = true := fun x hx => by
  have := zC.1 hpre x hx
  rw [zF, zF] at this
  exact ⟨this.1.1, this.1.2, this.2⟩
 have hinit : BI P ⟨w, G.S, fn.ntmps, GL⟩ GL (Ll args lent tk) { tmps := vs ++ xC (fn.ntmps - vs.size) undef, defers := [] } w := by
  refine { S_lt := hS, S_src := fun β h => .inl h, S_0 := fun β h => h, S0_lt := hS, tsz := by simp; omega, defers := rfl, below := BT.refl _ _ _, gok := hgk, nlt := hn9, lent := fun _ _ => ⟨rfl, rfl, rfl⟩, blk := ?_, at_ok := ?_, at_inj := ?_, env := ?_, live := ?_, liveB := ?_ }
  ·intro b k hk
   rcases hbx b k hk with ⟨rfl, rfl⟩ | ⟨_, hd, hL, x, hx, rfl⟩
   ·exact htb.mono hext hdomt (fun _ _ => rfl) (fun _ _ _ => rfl) fun c hc => by rw [htk.2] at hc; cases hc
   ·have h1 := hlb _ x hx
    rw [← hbk b hL] at h1
    exact h1.mono hext hd (fun _ _ => rfl) (fun _ _ _ => rfl) fun c hc => hin c (zC.1 (hpre' x (lM hx)).1 c hc)
  ·intro b k β hk hr hβ
   have hβ0 := hβ
   obtain ⟨hd, hg⟩ := hhas b β hβ
   have hL := hdomL b hd
   rcases hbx b k hk with ⟨rfl, rfl⟩ | ⟨_, _, _, x, hx, rfl⟩
   ·have := hta β hg
    exact ⟨⟨fun h3 => (by cases h3), .inr ⟨90900, rfl, hβ0⟩⟩, this.1, this.2⟩
   ·rw [hbk b hL] at hg
    have := hla _ β (Au hx) hg
    exact ⟨⟨fun h3 => (by rw [hL] at h3; cases h3), .inr ⟨b, hL, hβ0⟩⟩, this.1, this.2⟩
  ·intro b c k l β hk hl hr hr' hβ hβ'
   obtain ⟨hd, hg⟩ := hhas b β hβ
   obtain ⟨hd', hg'⟩ := hhas c β hβ'
   rcases hbx b k hk with ⟨rfl, rfl⟩ | ⟨_, _, hL, x, hx, rfl⟩ <;> rcases hbx c l hl with ⟨rfl, rfl⟩ | ⟨_, _, hL', x', hx', rfl⟩
   ·rfl
   ·rw [hbk c hL'] at hg'; exact absurd hg (hlt _ β (Au hx') hg')
   ·rw [hbk b hL] at hg; exact absurd hg' (hlt _ β (Au hx) hg)
   ·rw [hbk b hL] at hg
    rw [hbk c hL'] at hg'
    have := hli _ _ β (Au hx) (Au hx') hg hg'
    rw [hbk b hL, hbk c hL', this]
  ·intro s d hs
   have hs' : args[s]? = some d := hs
   rw [hcell s (Au hs')]
   exact (hrd s d hs').mono hext (fun _ _ => rfl) fun b hb => hin b (zC.1 (zC.1 hargs d (lM hs')) b hb)
  ·intro s d hs b hb
   have hs' : args[s]? = some d := hs
   exact hdn b (hin b (zC.1 (zC.1 hargs d (lM hs')) b hb))
  ·intro b k hk c hc
   rcases hbx b k hk with ⟨rfl, rfl⟩ | ⟨_, hd, hL, x, hx, rfl⟩
   ·rw [htk.2] at hc; cases hc
   ·exact hdn c (hin c (zC.1 (hpre' x (lM hx)).1 c hc))
 refine wp_mono (h w G.S GL _ w ⟨_, hinit⟩) ?_
 rintro e a' w' ⟨st', hq, G2, hs⟩
 have key : PX P fn.results.toList st' ns lent rv res → a'.defers = [] ∧ ∃ v, (results fn a'.tmps).run P w' = .ok v w' ∧ ∃ v' G', Ending.returned v = .returned v' ∧ BT (fun β => Lv G lent.length β ∨ G.has 90900 β) w.heap.size w w' ∧ (∀ β, G.S β → G'.S β) ∧ (∀ β, G'.S β → G.S β ∨ (w.heap.size ≤ β ∧ β < w'.heap.size)) ∧ FB P w' G' v' res ∧
   (∀ (k : Nat) (x : A4 × A4), lent[k]? = some x → B7 P w' G' (90000 + k) x.2) ∧
   (∀ (k : Nat) (x : A4), rv[k]? = some x → B7 P w' G' k x) ∧
   (∀ k, k < lent.length → G'.loc (90000 + k) = G.loc (90000 + k) ∧ G'.hd (90000 + k) = G.hd (90000 + k) ∧ G'.more (90000 + k) = G.more (90000 + k)) ∧
   (∀ k β, k < lent.length → G'.has (90000 + k) β → ¬ G'.S β) ∧
   (∀ k β, k < rv.length → G'.has k β → (w.heap.size ≤ β ∨ G.has 90900 β) ∧ β < w'.heap.size ∧ ¬ G'.S β) ∧
   (∀ k l β, k < rv.length → l < rv.length → G'.has k β → G'.has l β → k = l) := by
  rintro ⟨⟨xs, hr1, hr2⟩, hlp, hv⟩
  obtain ⟨us, h1, h2, h3⟩ := hs.rrs hr1
  have hoL : ∀ k, k < lent.length → Hf ns (90000 + k) = 90000 + k := fun k hk => by unfold Hf; rw [EL (by omega)]; rfl
  have hoN : ∀ k, k < rv.length → Hf ns k = nm ns k := fun k hk => by unfold Hf; rw [Hc (show k < 1000 by omega) (by omega)]; rfl
  have hbl : ∀ (k : Nat) (x : A4 × A4), lent[k]? = some x → st'.bx (90000 + k) = some (x.2.ren (Hf ns)) := fun k x hk => by
   have := Jx hlp k x hk
   rwa [zH] at this
  have hbv : ∀ (k : Nat) (x : A4), rv[k]? = some x → st'.bx (nm ns k) = some (x.ren (Hf ns)) := fun k x hk => by
   have := LB hv k x hk
   rwa [zH] at this
  have hreal : ∀ (k : Nat) (x : A4), rv[k]? = some x → (x.ren (Hf ns)).real = true := fun k x hk => by
   rw [EP]; exact zC.1 hrl x (lM hk)
  have hrealL : ∀ (k : Nat) (x : A4 × A4), lent[k]? = some x → (x.2.ren (Hf ns)).real = true := fun k x hk => by
   rw [EP]; exact (hpre' _ (lM hk)).2.2
  have hgl : ∀ k, k < lent.length → G2.loc (90000 + k) = G.loc (90000 + k) ∧ G2.hd (90000 + k) = G.hd (90000 + k) ∧ G2.more (90000 + k) = G.more (90000 + k) := fun k hk => by
   obtain ⟨e1, e2, e3⟩ := hs.lent (90000 + k) (Lb (by omega))
   exact ⟨e1.trans (hext.loc _ (hdomk k hk)), e2.trans (hext.hd _ (hdomk k hk)), e3.trans (hext.more _ (hdomk k hk))⟩
  have hfixn : ∀ k, k < rv.length → GB (nm ns k) = false := fun k hk => by
   have := zC.1 hnf _ (Cg (show k < ns.length by omega))
   simpa using this
  refine ⟨hs.defers, (if h : us.toArray.size = 1 then us.toArray[0] else .tuple us.toArray), ?_, _, { S := G2.S, loc := fun b => G2.loc (Hf ns b), hd := fun b => G2.hd (Hf ns b), more := fun b => G2.more (Hf ns b) }, rfl, ?_, hs.S_0, ?_, ?_, ?_, ?_, ?_, ?_, ?_, ?_⟩
  ·unfold results
   refine Ah (a := us.toArray) (w1 := w') ?_ rfl
   rw [Array.mapM_eq_mapM_toList]
   simp only [Sem.run_map]
   exact congrArg (fun r => Result.andThen r fun a w' => Result.ok a.toArray w') h1
  ·have hb := hs.below
   exact ⟨hb.os, hb.tape, hb.output, hb.size, hb.drawn, fun k hk hl => hb.block k hk fun h => hl ((hlent k).1 h)⟩
  ·intro β hβ
   rcases hs.S_src β hβ with h | h
   ·exact .inl h
   ·exact .inr ⟨h, hs.S_lt β hβ⟩
  ·refine F3 (f := Hf ns) ?_
   rw [← hr2]
   match xs, us, h2 with
   | [], [], _ => exact ⟨#[], rfl, rfl, fun j x h => by simp at h⟩
   | [x], [u], _ => exact h3 0 u x rfl rfl
   | x :: y :: xs, u :: u' :: us, hl2 =>
    refine ⟨(u :: u' :: us).toArray, by simp, by simpa using hl2, fun j z hj => ?_⟩
    have hlt := Au hj
    have hu : (u :: u' :: us)[j]? = some ((u :: u' :: us)[j]'(by rw [hl2]; exact hlt)) := by rw [yB]
    have := h3 j _ z hu hj
    have hc : Aq (u :: u' :: us).toArray j = (u :: u' :: us)[j]'(by rw [hl2]; exact hlt) := by
     unfold Aq
     rw [List.getElem?_toArray, hu]; rfl
    rw [hc]; exact this
  ·intro k x hk
   refine EN (f := Hf ns) ?_
   rw [hoL k (Au hk)]
   exact hs.blk _ _ (hbl k x hk)
  ·intro k x hk
   refine EN (f := Hf ns) ?_
   rw [hoN k (Au hk)]
   exact hs.blk _ _ (hbv k x hk)
  ·intro k hk
   simp only [hoL k hk]
   exact hgl k hk
  ·intro k β hk hβ
   have hx : lent[k]? = some lent[k] := by simp [hk]
   have hβ : G2.has (90000 + k) β := by
    unfold Gh.has at hβ ⊢
    simp only [hoL k hk] at hβ
    exact hβ
   exact (hs.at_ok _ _ β (hbl k _ hx) (hrealL k _ hx) hβ).2.2
  ·intro k β hk hβ
   have hx : rv[k]? = some rv[k] := by simp [hk]
   have hβ : G2.has (nm ns k) β := by
    unfold Gh.has at hβ ⊢
    simp only [hoN k hk] at hβ
    exact hβ
   have := hs.at_ok _ _ β (hbv k _ hx) (hreal k _ hx) hβ
   refine ⟨?_, this.2⟩
   rcases this.1.2 with h | h
   ·exact .inl h
   ·rcases (hlent β).1 h with ⟨j, hj, hg⟩ | hg
    ·exfalso
     have hx' : lent[j]? = some lent[j] := by simp [hj]
     have hg2 : G2.has (90000 + j) β := by
      unfold Gh.has at hg ⊢
      rw [(hgl j hj).1, (hgl j hj).2.2]; exact hg
     have := hs.at_inj _ _ _ _ β (hbv k _ hx) (hbl j _ hx') (hreal k _ hx) (hrealL j _ hx') hβ hg2
     have hf := hfixn k hk
     rw [this, Lb (by omega)] at hf; cases hf
    ·exact .inr hg
  ·intro k l β hk hl hβ hβ'
   have hx : rv[k]? = some rv[k] := by simp [hk]
   have hx' : rv[l]? = some rv[l] := by simp [hl]
   have hβ : G2.has (nm ns k) β := by
    unfold Gh.has at hβ ⊢
    simp only [hoN k hk] at hβ
    exact hβ
   have hβ' : G2.has (nm ns l) β := by
    unfold Gh.has at hβ' ⊢
    simp only [hoN l hl] at hβ'
    exact hβ'
   have := hs.at_inj _ _ _ _ β (hbv k _ hx) (hbv l _ hx') (hreal k _ hx) (hreal l _ hx') hβ hβ'
   exact Kd hnd (by omega) (by omega) this
 cases e with
 | normal => exact key hq
 | ret => exact key hq
 | _ => exact hq.elim
def HB (ls : List Nat) (b : Nat) (ns : List Nat) (c : Nat) : Nat := if c = 90900 then b else nu ls ns c
theorem Fi {ls ns : List Nat} {b k : Nat} (h : k < 900) : HB ls b ns (90000 + k) = nm ls k := by
 unfold HB; rw [if_neg (by omega), FL (by omega)]
theorem JQ {ls ns : List Nat} {b k : Nat} (h : k < 90000) : HB ls b ns k = nm ns k := by
 unfold HB; rw [if_neg (by omega), Kf h]
section run
variable {dr : Bool} {Q : St → Prop} {r i : Nat} {st : St} {log : List (Nat × Bx)} {o : Oper} {gs : List (Operand × D)}
theorem Dh {f s : Nat} {xs : List Operand} {ds0 ds : List D} {lent : List (A4 × A4)} {tk : A4} {rv : List A4} {res : D} {ts : Array TypeId} (ls : List Nat) (b : Nat) (ns : List Nat) (ch : List Bool) (hc : Ef P f ds lent tk rv res) (hat : At st.env ops i X.n (.call ⟨.value (.func f), xs.toArray, ts⟩) s gs)
  (hf : Ay P f = true) (hl : xs.length = ds0.length) (hx : DM st.env (Gb xs ds0)) (hds : ds0.map D.nrm = ds.map (D.ren (HB ls b ns)))
  (hll : ls.length = lent.length) (hln : FA ls = true) (hlb : Fx st.bx (J3 (HB ls b ns) ls lent)) (hbb : st.bx b = some tk) (hbls : ls.contains b = false) (htk : (tk.real && tk.names.isEmpty) = true)
  (hns : ns.length = rv.length) (hnd : FA ns = true) (hkind : (ns.all fun n => (AU n == AU b) && !GB n) = true) (hnew : J8 st.bx ns) (hch : Og lent ch)
  (hlim : (y7 lent.length 900 && y7 rv.length 1000) = true) (hre : (lent.all fun x => x.1.real && x.2.real) = true)
  (hnm : (Fq lent.length rv.length res.names && (lent.all fun x => Fq lent.length rv.length x.2.names) && rv.all fun x => x.names.isEmpty) = true)
  (next : AY P X ops dr Q r (i + 1) (Bx.upd ⟨gs ++ Gb xs ds0, J3 (HB ls b ns) ls lent ++ [(b, tk)], some s, some (res.ren (HB ls b ns)), Ft (HB ls b ns) ls lent ch (newB (HB ls b ns) ns rv ++ Co [b]), ns⟩ st) ((i, ⟨gs ++ Gb xs ds0, J3 (HB ls b ns) ls lent ++ [(b, tk)], some s, some (res.ren (HB ls b ns)), Ft (HB ls b ns) ls lent ch (newB (HB ls b ns) ns rv ++ Co [b]), ns⟩) :: log)) : AY P X ops dr Q (r + 1) i st log := by
 obtain ⟨o, ho, hop, hd, hn, hg, hgp⟩ := hat.out
 have hnd := Bf hnd
 have hln := Bf hln
 rw [zF] at hlim htk
 have hlim1 := zT hlim.1
 have hlim2 := zT hlim.2
 rw [zF, zF] at hnm
 obtain ⟨⟨hnmR, hnmL⟩, hnmV⟩ := hnm
 have htkn : tk.names = [] := xO.1 htk.2
 have hbls : b ∉ ls := fun h => by rw [List.contains_iff_mem.2 h] at hbls; cases hbls
 have hre' : ∀ x, x ∈ lent → x.1.real = true ∧ x.2.real = true := fun x hx => by
  have := zC.1 hre x hx
  rw [zF] at this
  exact this
 refine AY.step next ⟨Ak.2 ⟨hgp, hx⟩, F8.2 ⟨hlb, hbb, trivial⟩, hnew⟩ ?_
 intro st a w K Q' hs hpre hK
 obtain ⟨G, hs⟩ := hs
 have hx := (Ak.1 hpre.r).2
 have hw := hs.wanted hg (Ak.1 hpre.r).1
 have hnew := hpre.n
 have hlb := (F8.1 hpre.b).1
 have hbb : st.bx b = some tk := (F8.1 hpre.b).2.1
 have hnew' : ∀ c, c ∈ ns → st.bx c = none := by
  have : ∀ {l : List Nat}, J8 st.bx l → ∀ c, c ∈ l → st.bx c = none := by
   intro l
   induction l with
   | nil => intro _ c hc; cases hc
   | cons b l ih =>
    intro h c hc
    rcases zY.1 hc with e | e
    ·subst e; exact h.1
    ·exact ih h.2 c e
  exact this hnew
 have hbns : b ∉ ns := fun hm => by rw [hnew' b hm] at hbb; cases hbb
 have hget := fun k x hk => Lm (f := HB ls b ns) hll hlb k x hk
 have hlk : ∀ k, k < lent.length → st.bx (nm ls k) = some (lent[k]!.1.ren (HB ls b ns)) ∧ (lent[k]!.1.ren (HB ls b ns)).real = true := fun k hk => by
  have hx0 : lent[k]? = some lent[k]! := by simp [hk]
  exact ⟨hget k _ hx0, by rw [EP]; exact (hre' _ (lM hx0)).1⟩
 have hlsns : ∀ c, c ∈ ls → c ∉ ns := fun c hc hm => by
  obtain ⟨k, hk, e⟩ := IS hc
  have := (hlk k (by omega)).1
  rw [e, hnew' c hm] at this; cases this
 have hlsb : ∀ c, c ∈ ls → c ≠ b := fun c hc e => hbls (e ▸ hc)
 unfold wpOp
 rw [ho]
 simp only [hw, if_true]
 refine .inl ?_
 unfold Oper.wp
 have hrun : (execOp a.eval o).run P w = .ok (.enter f (xs.toArray.map a.eval)) w := by
  simp only [execOp, hop]
  exact HP hf rfl
 rw [hrun]
 show Calls P f (xs.toArray.map a.eval) w _
 let Gc : Gh := { S := G.S, loc := fun c => G.loc (HB ls b ns c), hd := fun c => G.hd (HB ls b ns c), more := fun c => G.more (HB ls b ns c) }
 have hGc : ∀ k β, k < lent.length → (Gc.has (90000 + k) β ↔ G.has (nm ls k) β) := fun k β hk => by
  unfold Gh.has; simp only [Gc]; rw [Fi (by omega)]
 have hGt : ∀ β, (Gc.has 90900 β ↔ G.has b β) := fun β => Iff.rfl
 refine (hc w Gc (xs.toArray.map a.eval) hs.S_lt hs.gok ?_ ?_ ?_ ?_ ?_ ?_ ?_ ?_).mono ?_
 ·intro k x hk
  refine EN (f := HB ls b ns) ?_
  rw [Fi (by have := Au hk; omega)]
  exact hs.blk _ _ (hget k x hk)
 ·refine EN (f := HB ls b ns) ?_
  rw [SX htkn]
  exact hs.blk _ _ hbb
 ·intro k β hk hβ
  have h1 := hlk k hk
  exact (hs.at_ok _ _ β h1.1 h1.2 ((hGc k β hk).1 hβ)).2
 ·intro β hβ
  exact (hs.at_ok _ _ β hbb htk.1 hβ).2
 ·intro k l β hk hl' hβ hβ'
  have h1 := hlk k hk
  have h2 := hlk l hl'
  have := hs.at_inj _ _ _ _ β h1.1 h2.1 h1.2 h2.2 ((hGc k β hk).1 hβ) ((hGc l β hl').1 hβ')
  exact Kd hln (by omega) (by omega) this
 ·intro k β hk hβ hβ'
  have h1 := hlk k hk
  exact hlsb _ (Cg (by omega)) (hs.at_inj _ _ _ _ β h1.1 hbb h1.2 htk.1 ((hGc k β hk).1 hβ) hβ')
 ·have h1 := congrArg y8 hds
  simp at h1
  simp; omega
 ·intro j d hj
  have hj2 : (ds.map (D.ren (HB ls b ns)))[j]? = some (d.ren (HB ls b ns)) := by rw [zG, hj]; rfl
  rw [← hds, zG] at hj2
  obtain ⟨d0, hj0, hd0⟩ : ∃ d0, ds0[j]? = some d0 ∧ d0.nrm = d.ren (HB ls b ns) := by
   cases hx0 : ds0[j]? with
   | none => rw [hx0] at hj2; cases hj2
   | some d0 => rw [hx0] at hj2; exact ⟨d0, rfl, by simpa using hj2⟩
  have hlt := Au hj0
  have hxj : xs[j]? = some (xs[j]'(by omega)) := by simp [show j < xs.length from by omega]
  have hop' := HI hl hx j _ d0 hxj hj0
  have hcell : Aq (xs.toArray.map a.eval) j = a.eval (xs[j]'(by omega)) := by simp [Aq, show j < xs.length from by omega]
  rw [hcell]
  refine F3 (f := HB ls b ns) ?_
  rw [← hd0]
  exact (hs.opd hop').nrm
 ·rintro e w' ⟨v, G', rfl, hbel, hS1, hS2, hres', hpost, hvec, hsame, hlS, hvat, hvinj⟩
  show K (a.put o.dst v) w'
  rw [hd]
  let G2 : Gh := { S := G'.S, loc := fun c => if c ∈ ns then G'.loc (ns.idxOf c) else G.loc c, hd := fun c => if c ∈ ns then G'.hd (ns.idxOf c) else G.hd c, more := fun c => if c ∈ ns then G'.more (ns.idxOf c) else G.more c }
  have hidx : ∀ k, k < ns.length → ns.idxOf (nm ns k) = k := by
   intro k hk
   have hm := Cg hk
   have h1 : ns.idxOf (nm ns k) < ns.length := List.idxOf_lt_length_of_mem hm
   refine Kd hnd h1 hk ?_
   have h2 := List.getElem_idxOf h1
   show ns.getD (ns.idxOf (nm ns k)) 0 = nm ns k
   rw [lD, yB h1, yK, h2]
  have hvia : G'.via G2 (HB ls b ns) (fun c => Ex lent.length rv.length c = true) := by
   have key : ∀ b, Ex lent.length rv.length b = true → (∃ k, k < lent.length ∧ b = 90000 + k) ∨ (b < rv.length ∧ AU b = false) := by
    intro b hb
    unfold Ex at hb
    split at hb
    ·rename_i h
     obtain ⟨k, _, rfl⟩ := FV h
     rw [yP] at hb
     exact .inl ⟨k, by omega, rfl⟩
    ·rename_i h
     rw [yP] at hb
     exact .inr ⟨hb, by simpa using h⟩
   refine ⟨fun β h => h, fun c hb => ?_, fun c hb => ?_, fun c hb => ?_⟩
   ·rcases key c hb with ⟨k, hk, rfl⟩ | ⟨hb1, hb2⟩
    ·rw [Fi (by omega)]
     have hni : nm ls k ∉ ns := hlsns _ (Cg (by omega))
     simp only [G2]; rw [if_neg hni, (hsame k hk).1]; simp only [Gc]; rw [Fi (by omega)]
    ·rw [JQ (by omega)]
     simp only [G2]; rw [if_pos (Cg (by omega)), hidx c (by omega)]
   ·rcases key c hb with ⟨k, hk, rfl⟩ | ⟨hb1, hb2⟩
    ·rw [Fi (by omega)]
     have hni : nm ls k ∉ ns := hlsns _ (Cg (by omega))
     simp only [G2]; rw [if_neg hni, (hsame k hk).2.1]; simp only [Gc]; rw [Fi (by omega)]
    ·rw [JQ (by omega)]
     simp only [G2]; rw [if_pos (Cg (by omega)), hidx c (by omega)]
   ·rcases key c hb with ⟨k, hk, rfl⟩ | ⟨hb1, hb2⟩
    ·rw [Fi (by omega)]
     have hni : nm ls k ∉ ns := hlsns _ (Cg (by omega))
     simp only [G2]; rw [if_neg hni, (hsame k hk).2.2]; simp only [Gc]; rw [Fi (by omega)]
    ·rw [JQ (by omega)]
     simp only [G2]; rw [if_pos (Cg (by omega)), hidx c (by omega)]
  have hext : G.ext G2 (fun b => (st.bx b).isSome = true) := by
   have : ∀ b, (st.bx b).isSome = true → b ∉ ns := fun b hb hm => by rw [hnew' b hm] at hb; cases hb
   exact ⟨fun β h => hS1 β h, fun b hb => by simp only [G2]; rw [if_neg (this b hb)], fun b hb => by simp only [G2]; rw [if_neg (this b hb)], fun b hb => by simp only [G2]; rw [if_neg (this b hb)]⟩
  have hnotL : ∀ β, (Lv Gc lent.length β ∨ Gc.has 90900 β) → (∃ k, k < lent.length ∧ G.has (nm ls k) β) ∨ G.has b β := fun β h => h.imp (fun ⟨k, hk, hb⟩ => ⟨k, hk, (hGc k β hk).1 hb⟩) id
  have hatb := fun β h => hs.at_ok b tk β hbb htk.1 h
  have hwS : ∀ β, G.S β → w'.heap[β]? = w.heap[β]? := fun β hβ => hbel.block β (hs.S_lt β hβ) fun h => by
   rcases hnotL β h with ⟨k, hk, hg⟩ | hg
   ·exact (hs.at_ok _ _ β (hlk k hk).1 (hlk k hk).2 hg).2.2 hβ
   ·exact (hatb β hg).2.2 hβ
  have hsz := hbel.size
  have hle := hs.below.size
  have hng := fun c => KL (f := HB ls b ns) (bx := AV st.bx (Co [b])) (ns := ns) (rv := rv) (c := c) hns hnd
  have hbx' : ∀ c, AV st.bx (newB (HB ls b ns) ns rv ++ Co [b]) c = AV (AV st.bx (Co [b])) (newB (HB ls b ns) ns rv) c := fun c => KP
  have hgb : ∀ c, c ≠ b → AV st.bx (Co [b]) c = st.bx c := fun c hc => by rw [He, if_neg (by simp [hc])]
  have hbg := K9 (f := HB ls b ns) (bx := st.bx) (r := newB (HB ls b ns) ns rv ++ Co [b]) (ls := ls) (lent := lent) (ch := ch) hll hln hch (fun c hc => by rw [hbx', (hng c).1 (hlsns c hc), hgb c (hlsb c hc)]) hlb
  have hblk : ∀ c k, AV st.bx (Ft (HB ls b ns) ls lent ch (newB (HB ls b ns) ns rv ++ Co [b])) c = some k →
    (c = b ∧ k = .gone) ∨ (c ∉ ns ∧ c ∉ ls ∧ c ≠ b ∧ st.bx c = some k) ∨ (∃ m x, m < ns.length ∧ nm ns m = c ∧ rv[m]? = some x ∧ k = x.ren (HB ls b ns)) ∨ (∃ m x, m < ls.length ∧ nm ls m = c ∧ lent[m]? = some x ∧ k = x.2.ren (HB ls b ns)) := by
   intro c k hc
   by_cases hm : c ∈ ls
   ·obtain ⟨m, hm1, hm2⟩ := IS hm
    have hlx : lent[m]? = some (lent[m]'(by omega)) := by simp [show m < lent.length from by omega]
    have := hbg.2 m _ hlx
    rw [hm2, hc] at this
    exact .inr (.inr (.inr ⟨m, _, hm1, hm2, hlx, by simpa using this⟩))
   ·rw [hbg.1 c hm, hbx'] at hc
    by_cases hm2 : c ∈ ns
    ·obtain ⟨m, hm1, hm3⟩ := IS hm2
     have hrx : rv[m]? = some (rv[m]'(by omega)) := by simp [show m < rv.length from by omega]
     have := (hng c).2 m _ hrx
     rw [hm3, hc] at this
     exact .inr (.inr (.inl ⟨m, _, hm1, hm3, hrx, by simpa using this⟩))
    ·rw [(hng c).1 hm2, He] at hc
     by_cases e : c = b
     ·rw [if_pos (by simp [e])] at hc; cases hc; exact .inl ⟨e, rfl⟩
     ·rw [if_neg (by simp [e])] at hc; exact .inr (.inl ⟨hm2, hm, e, hc⟩)
  have hdom : ∀ c, Ex lent.length rv.length c = true → (AV st.bx (Ft (HB ls b ns) ls lent ch (newB (HB ls b ns) ns rv ++ Co [b])) (HB ls b ns c)).isSome = true := by
   intro c hb
   unfold Ex at hb
   split at hb
   ·rename_i h
    obtain ⟨k, _, rfl⟩ := FV h
    rw [yP] at hb
    have hk : k < lent.length := by omega
    rw [Fi (by omega), hbg.2 k _ (show lent[k]? = some lent[k] by simp [hk])]; rfl
   ·rename_i h
    rw [yP] at hb
    have hni : nm ns c ∉ ls := fun hm => hlsns _ hm (Cg (by omega))
    rw [JQ (by omega), hbg.1 _ hni, hbx', (hng (nm ns c)).2 c _ (show rv[c]? = some rv[c] by simp [hb])]; rfl
  have hren : ∀ l : List Nat, Fq lent.length rv.length l = true → ∀ b, b ∈ l → Ex lent.length rv.length b = true := fun l h b hb => zC.1 h b hb
  have hxn0 : ∀ x, x ∈ rv → x.names = [] := fun x hx => xO.1 (zC.1 hnmV x hx)
  have hrenB : ∀ (k : A4) c, c ∈ (k.ren (HB ls b ns)).names → ∃ b0, b0 ∈ k.names ∧ c = HB ls b ns b0 := by
   intro k c hb
   cases k with
   | box cs =>
    obtain ⟨c, hc, hb⟩ := A1.1 hb
    obtain ⟨c0, h0, rfl⟩ := yH.1 hc
    obtain ⟨b0, h1, h2⟩ := H7 hb
    exact ⟨b0, A1.2 ⟨c0, h0, h1⟩, h2⟩
   | vec e rows => cases hb
   | mp es => cases hb
   | dvec e cols rs => cases hb
   | pvec n e cols rs => cases hb
   | hol e cols i0 k0 c rs => exact ⟨c, by simp [A4.names], by simpa [A4.ren, A4.names] using hb⟩
   | gone => cases hb
  have hmd0 : ∀ m, m < ns.length → Ex lent.length rv.length m = true := fun m hm => by
   unfold Ex; rw [Hc (show m < 90000 by omega) (yD _), if_neg (by simp), yP]; omega
  have hhasN : ∀ m β, m < ns.length → (G2.has (nm ns m) β ↔ G'.has m β) := fun m β hm => by
   have := hvia.has (β := β) (hmd0 m hm)
   rwa [JQ (by omega)] at this
  have hnk : ∀ m, m < ns.length → AU (nm ns m) = AU b ∧ GB (nm ns m) = false := fun m hm => by
   have := zC.1 hkind _ (Cg hm)
   rw [zF] at this
   exact ⟨beq_iff_eq.1 this.1, by simpa using this.2⟩
  have hlive0 : ∀ c, (st.bx c).isSome = true → (AV st.bx (Ft (HB ls b ns) ls lent ch (newB (HB ls b ns) ns rv ++ Co [b])) c).isSome = true := fun c hc => Kg hc
  have key : BI P X G2 ⟨st.env, AV st.bx (Ft (HB ls b ns) ls lent ch (newB (HB ls b ns) ns rv ++ Co [b]))⟩ a w' := by
   refine hs.frameF hlive0 hext hwS ?_ ?_ ?_ ?_ ?_ ?_ (fun c hc => by
    have : c ∉ ns := fun hm => by
     obtain ⟨m, hm1, rfl⟩ := IS hm
     rw [(hnk m hm1).2] at hc; cases hc
    simp only [G2]; rw [if_neg this, if_neg this, if_neg this]; exact ⟨rfl, rfl, rfl⟩)
   ·intro c k hc
    rcases hblk c k hc with ⟨rfl, rfl⟩ | ⟨_, h0, h0b, h1⟩ | ⟨m, x, h1, h2, h3, h4⟩ | ⟨m, x, h1, h2, h3, h4⟩
    ·exact .inr ⟨trivial, fun c hc => by cases hc⟩
    ·refine .inl ⟨h1, fun β hr hβ => hbel.block β (hs.at_ok c k β h1 hr hβ).2.1 fun hL => ?_⟩
     rcases hnotL β hL with ⟨j, hj, hg⟩ | hg
     ·exact h0 ((hs.at_inj _ _ _ _ β h1 (hlk j hj).1 hr (hlk j hj).2 hβ hg) ▸ Cg (by omega))
     ·exact h0b (hs.at_inj _ _ _ _ β h1 hbb hr htk.1 hβ hg)
    ·subst h4
     have hxm := lM h3
     refine .inr ⟨?_, fun c' hc' => ?_⟩
     ·have := (hvec m x h3).ren hvia (hmd0 m h1) (fun c hc => by rw [hxn0 x hxm] at hc; cases hc)
      rwa [JQ (by omega), h2] at this
     ·obtain ⟨b0, hb0, rfl⟩ := hrenB x c' hc'
      rw [hxn0 x hxm] at hb0; cases hb0
    ·subst h4
     have hmd : Ex lent.length rv.length (90000 + m) = true := by
      unfold Ex; rw [EL (by omega), if_pos rfl, yP]; omega
     have hxn := hren _ (zC.1 hnmL x (lM h3))
     refine .inr ⟨?_, fun c' hc' => ?_⟩
     ·have := (hpost m x h3).ren hvia hmd hxn
      rwa [Fi (by omega), h2] at this
     ·obtain ⟨b0, hb0, rfl⟩ := hrenB x.2 c' hc'
      exact hdom b0 (hxn b0 hb0)
   ·intro c k β hc hr hβ
    rcases hblk c k hc with ⟨rfl, rfl⟩ | ⟨h0, _, _, h1⟩ | ⟨m, x, h1, h2, h3, h4⟩ | ⟨m, x, h1, h2, h3, h4⟩
    ·cases hr
    ·have hβ := (hext.has (by rw [h1]; rfl)).1 hβ
     have := hs.at_ok c k β h1 hr hβ
     refine ⟨this.1, by omega, fun h => ?_⟩
     rcases hS2 β h with h | h
     ·exact this.2.2 h
     ·omega
    ·rw [← h2, hhasN m β h1] at hβ
     have := hvat m β (by omega) hβ
     have hk := (hnk m h1).1
     rw [h2] at hk
     refine ⟨?_, this.2.1, this.2.2⟩
     rcases this.1 with h5 | h5
     ·exact ⟨fun _ => by omega, .inl (by omega)⟩
     ·have h6 := (hatb β ((hGt β).1 h5)).1
      exact ⟨fun hf => h6.1 (hk ▸ hf), h6.2⟩
    ·subst h2
     have h5 := hlk m (by omega)
     have hβ := (hext.has (by rw [h5.1]; rfl)).1 hβ
     have := hs.at_ok _ _ β h5.1 h5.2 hβ
     refine ⟨this.1, by omega, hlS m β (by omega) ?_⟩
     have h6 := hsame m (by omega)
     unfold Gh.has at hβ ⊢
     rw [h6.1, h6.2.2]
     simp only [Gc]; rw [Fi (by omega)]; exact hβ
   ·intro c c' k k' β hc hc' hr hr' hβ hβ'
    have old : ∀ c k, AV st.bx (Ft (HB ls b ns) ls lent ch (newB (HB ls b ns) ns rv ++ Co [b])) c = some k → k.real = true → G2.has c β → (c ≠ b ∧ ∃ k0, st.bx c = some k0 ∧ k0.real = true ∧ G.has c β) ∨ ∃ m, m < ns.length ∧ nm ns m = c ∧ G'.has m β := by
     intro c k hc hr hβ
     rcases hblk c k hc with ⟨rfl, rfl⟩ | ⟨h0, _, h0b, h1⟩ | ⟨m, x, h1, h2, h3, h4⟩ | ⟨m, x, h1, h2, h3, h4⟩
     ·cases hr
     ·exact .inl ⟨h0b, k, h1, hr, (hext.has (by rw [h1]; rfl)).1 hβ⟩
     ·rw [← h2, hhasN m β h1] at hβ
      exact .inr ⟨m, h1, h2, hβ⟩
     ·subst h2
      have h5 := hlk m (by omega)
      exact .inl ⟨hlsb _ (Cg (by omega)), _, h5.1, h5.2, (hext.has (by rw [h5.1]; rfl)).1 hβ⟩
    have cross : ∀ c k m, c ≠ b → st.bx c = some k → k.real = true → G.has c β → m < ns.length → G'.has m β → False := by
     intro c k m h0 h1 h2 h3 hm h5
     have h6 := hvat m β (by omega) h5
     have h7 := (hs.at_ok c k β h1 h2 h3).2.1
     rcases h6.1 with h | h
     ·omega
     ·exact h0 (hs.at_inj _ _ _ _ β h1 hbb h2 htk.1 h3 ((hGt β).1 h))
    rcases old c k hc hr hβ with ⟨h0, k0, h1, h2, h3⟩ | ⟨m, h1, h2, h3⟩ <;> rcases old c' k' hc' hr' hβ' with ⟨h0', k0', h1', h2', h3'⟩ | ⟨m', h1', h2', h3'⟩
    ·exact hs.at_inj c c' k0 k0' β h1 h1' h2 h2' h3 h3'
    ·exact (cross c k0 m' h0 h1 h2 h3 h1' h3').elim
    ·exact (cross c' k0' m h0' h1' h2' h3' h1 h3).elim
    ·have := hvinj m m' β (by omega) (by omega) h3 h3'
     rw [← h2, ← h2', this]
   ·intro β h
    rcases hS2 β h with h | h
    ·have := hs.S_lt β h; omega
    ·exact h.2
   ·intro β h
    rcases hS2 β h with h | h
    ·exact hs.S_src β h
    ·exact .inr (by omega)
   ·refine hs.below.trans ⟨hbel.os, hbel.tape, hbel.output, hbel.size, hbel.drawn, fun k hk hnl => hbel.block k (by omega) fun hL => ?_⟩
    rcases hnotL k hL with ⟨j, hj, hg⟩ | hg
    ·rcases (hs.at_ok _ _ k (hlk j hj).1 (hlk j hj).2 hg).1.2 with h | h
     ·omega
     ·exact hnl h
    ·rcases (hatb k hg).1.2 with h | h
     ·omega
     ·exact hnl h
  refine hK _ _ ⟨G2, key.put (some s) (some (res.ren (HB ls b ns))) v (by intro t e; cases e; exact hn) ?_⟩
  rintro d ⟨⟩
  refine ⟨hres'.ren hvia (hren _ hnmR), fun c hb => ?_⟩
  obtain ⟨b0, h1, h2⟩ := H4 hb
  rw [h2]
  exact hdom b0 (hren _ hnmR b0 h1)
end run
end Go.Lift
namespace Go.Lift
open List renaming mem_of_getElem? → lM
open Go.RowKit
variable {P : Program} {X : GX} {ops : Array Oper}
theorem OB (n : Int) : Qz P .xor (.int .u32 n) (.int .u32 (NR .u32 4294967295 n)) := fun _w => rfl
def Pt (sb : ByteArray) : List Int := sb.data.toList.map fun b => (b.toNat : Int)
theorem Pk (f : Int → List T) (hf : ∀ n, f n = [.val (.int .u8 n)]) (sb : ByteArray) : Hz sb = (Pt sb).map f := by
 unfold Hz Pt
 rw [List.map_map]
 exact y5 fun b _ => (hf _).symm
theorem Rt {γ δ : Type} {f : γ → δ} {g : Int → List T} {xs : List γ} {sb : ByteArray} (h : xs.length + (Pt sb).length ≤ Hj) : (xs.map f).length + ((Pt sb).map g).length ≤ Hj := by simpa using h
theorem Qb {t t2 : TypeId} {w : World} {β cap : Nat} {n : Int} {arr : Array Value} {el : TypeId} {fz : Nat × Nat} (ht : KS P t = true) (ht2 : HD P t2 = true) (h : w.heap[β]? = some (.cells arr el fz)) (hsz : 0 < arr.size) (hc : Aq arr 0 = .int .u8 n) :
  (convert t t2 (.slice (some ⟨β, 0, none⟩) 1 cap)).run P w = .ok (.string (DL [n])) w := by
 unfold KS at ht
 split at ht
 ·rename_i e hu
  split at ht
  ·rename_i hu2
   unfold HD at ht2
   split at ht2
   ·rename_i hu3
    unfold convert
    refine Ah (Ax hu w) ?_
    refine Ah (Ax hu3 w) ?_
    refine Ah (Ax hu2 w) ?_
    refine La (xs := [n]) ?_
    rw [ES h (by omega)]
    have : Aq arr (0 + 0) = .int .u8 n := hc
    simp [yQ, List.range.loop, hc]
   ·cases ht2
  ·cases ht
 ·cases ht
def N8 (P : Program) (t f off ft : Nat) : Bool := match P.underlying t with
 | some (.struct fs) => (match fs[f]? with | some fl => fl.offset == off && fl.type == ft | none => false)
 | _ => false
section run
variable {dr : Bool} {Q : St → Prop} {r i : Nat} {st : St} {log : List (Nat × Bx)} {o : Oper} {gs : List (Operand × D)}
theorem MB {x : Operand} {cs : List C} {c : C} {t f k ft s : Nat} (hat : At st.env ops i X.n (.field t x f) s gs)
  (hx : opd st.env x = some (.e (.agg cs))) (hf : N8 P t f k ft = true) (ha : CX P ft false = true) (hk : cs[k]? = some c)
  (next : AY P X ops dr Q r (i + 1) (Bx.upd ⟨gs ++ [(x, .e (.agg cs))], [], some s, some (.e (.one c)), [], []⟩ st) ((i, ⟨gs ++ [(x, .e (.agg cs))], [], some s, some (.e (.one c)), [], []⟩) :: log)) : AY P X ops dr Q (r + 1) i st log := by
 obtain ⟨o, ho, hop, hd, hn, hg, hgp⟩ := hat.out
 refine AY.step next ⟨Ak.2 ⟨hgp, hx, trivial⟩, trivial, trivial⟩ (LR.value ho hg rfl hd.symm (BN hd hn) ?_)
 intro G st a w hs hpre
 obtain ⟨hx, _⟩ := (Ak.1 hpre.r).2
 obtain ⟨vs, hv, hl, h⟩ : HE P w G (a.eval x) (.agg cs) := hs.opd hx
 have hlt := Au hk
 refine ⟨Aq vs k, w, G, ?_, hs, ?_⟩
 ·simp only [execOp, hop, hv]
  refine Ah (a := Aq vs k) (w1 := w) ?_ rfl
  unfold N8 at hf
  split at hf
  ·rename_i fs hu
   split at hf
   ·rename_i fl hfl
    rw [zF, beq_iff_eq, beq_iff_eq] at hf
    obtain ⟨rfl, rfl⟩ := hf
    unfold Instr.field
    refine Ah (Ax hu w) ?_
    simp only [hfl]
    refine Ah (a := vs) (w1 := w) rfl ?_
    exact Ld ha (H5 (by omega)) w
   ·cases hf
  ·cases hf
 ·rintro d ⟨⟩
  exact ⟨h k c hk, fun b hb => hs.opd_live hx b (A1.2 ⟨c, lM hk, hb⟩)⟩
end run
end Go.Lift
namespace Go.Lift
def Aa (n : Int) : List T := [.val (.int .i64 n)]
def Bd (n : Int) : List T := [.val (.int .u8 n)]
def Vm (n : Int) : List T := [.val (.int .u64 n)]
abbrev MU (n : Int) : T := .val (.int .i64 n)
abbrev tB (b : Bool) : T := .val (.bool b)
def eB (b : Bool) : List T := [.val (.bool b)]
def O0 {α : Type} (f : α → List T) (xs : List α) : List T := [.sl (xs.map f)]
theorem NC : Td Aa := ⟨by intro x y h; simpa [Aa] using h⟩
theorem UQ : Td Bd := ⟨by intro x y h; simpa [Bd] using h⟩
theorem V9 : Td eB := ⟨by intro x y h; simpa [eB] using h⟩
theorem Vh {α : Type} {f : α → List T} (h : Td f) : Td (O0 f) := ⟨by intro x y hx; simp only [O0, List.cons.injEq, T.sl.injEq, and_true] at hx; exact JO h.inj _ _ hx⟩
structure Ch where
 fH : Int
 fw : Int
 fB : Int
 fQ : Int
def Bn (x : Ch) : List T := [.val (.int .u8 x.fH), .val (.int .u8 x.fw), .val (.int .u8 x.fB), .val (.int .u8 x.fQ)]
structure A9 where
 fw : Int
 fF : Int
 fU : Int
 fV : Bool
 fJ : List (List Bool)
 fR : List (List Bool)
def Am (x : A9) : List T := [.val (.int .i64 x.fw), .val (.int .i64 x.fF), .val (.int .i64 x.fU), .val (.bool x.fV), .sl (x.fJ.map (O0 eB)), .sl (x.fR.map (O0 eB))]
structure Ad where
 fi : List Int
 fm : List Int
 fq : List Int
 fh : List A9
structure Ai where
 ff : List Int
 fd : List Int
 fg : List Int
def CR (x : Ai) : List T := [.sl (x.ff.map Aa), .sl (x.fd.map Aa), .sl (x.fg.map Bd)]
structure AD where
 fT : Int
 fY : Int
 fZ : Int
def BC (x : AD) : List T := [.val (.int .i64 x.fT), .val (.int .i64 x.fY), .val (.int .i64 x.fZ)]
structure Al where
 fw : Int
 fy : Int
 fA : Int
def Ae (x : Al) : List T := [.val (.int .i64 x.fw), .val (.int .i64 x.fy), .val (.int .i64 x.fA)]
theorem Mh : Td Ae := ⟨by
 rintro ⟨a1, a2, a3⟩ ⟨b1, b2, b3⟩ h
 simp only [Ae, List.cons.injEq, T.val.injEq, Value.int.injEq, and_true, true_and] at h
 obtain ⟨h1, h2, h3⟩ := h
 subst h1
 subst h2
 subst h3
 rfl⟩
structure AN where
 fD : Ai
 fF : Int
 fG : Al
 fd : List Int
def A7 (x : AN) : List T := [.sl (x.fD.ff.map Aa), .sl (x.fD.fd.map Aa), .sl (x.fD.fg.map Bd), .val (.int .i64 x.fF), .val (.int .i64 x.fG.fw), .val (.int .i64 x.fG.fy), .val (.int .i64 x.fG.fA), .sl (x.fd.map Aa)]
theorem Oh : Td A7 := ⟨by
 rintro ⟨⟨a1, a2, a3⟩, a4, ⟨a5, a6, a7⟩, a8⟩ ⟨⟨b1, b2, b3⟩, b4, ⟨b5, b6, b7⟩, b8⟩ h
 simp only [A7, List.cons.injEq, T.val.injEq, T.sl.injEq, Value.int.injEq, and_true, true_and] at h
 obtain ⟨h1, h2, h3, h4, h5, h6, h7, h8⟩ := h
 have h1 := JO NC.inj _ _ h1
 subst h1
 have h2 := JO NC.inj _ _ h2
 subst h2
 have h3 := JO UQ.inj _ _ h3
 subst h3
 subst h4
 subst h5
 subst h6
 subst h7
 have h8 := JO NC.inj _ _ h8
 subst h8
 rfl⟩
structure Af where
 fo : List Al
 fk : Int
 fp : Int
 fr : Int
 fj : Int
 fe : Int
 fc : Ai
structure Cr where
 fw : Int
 fe : Int
 fj : Int
 fr : Int
 fA : Int
 fW : Bool
 fT : Int
def Mj (x : Cr) : List T := [.val (.int .i64 x.fw), .val (.int .i64 x.fe), .val (.int .i64 x.fj), .val (.int .i64 x.fr), .val (.int .i64 x.fA), .val (.bool x.fW), .val (.int .i64 x.fT)]
structure Bc where
 fb : Ad
 fN : List Al
 fK : List Ai
structure AC where
 fw : Int
 fe : Int
 fy : Int
 fS : ByteArray
def Cb (x : AC) : List T := [.val (.int .i64 x.fw), .val (.int .i64 x.fe), .val (.int .i64 x.fy), .val (.string x.fS)]
structure BL where
 fj : Int
 fr : Int
 fA : Int
structure AW where
 fw : Int
 fO : AC
 fX : BL
 f1 : Int
 fT : Int
def As (x : AW) : List T := [.val (.int .i64 x.fw), .val (.int .i64 x.fO.fw), .val (.int .i64 x.fO.fe), .val (.int .i64 x.fO.fy), .val (.string x.fO.fS), .val (.int .i64 x.fX.fj), .val (.int .i64 x.fX.fr), .val (.int .i64 x.fX.fA), .val (.int .i64 x.f1), .val (.int .i64 x.fT)]
structure Ac where
 fb : Ad
 fu : List Int
 fa : Af
 fv : List AW
structure AA where
 fb : Ad
 fu : List Int
 fa : Af
structure AB where
 fE : Int
 fe : Int
 fI : Int
open IntKind renaming wrap → wI
def D0 (_ : Nat) (p0 : Int) (p1 : Int) : Option Bool :=
 Bp (fun (v1 : Bool) =>
  some v1)
 fun j1 =>
 AE ((decide (0 ≤ p0)))
  (j1 (decide (p0 < p1)))
  (j1 false)
def It (_ : Nat) (p0 : Int) (p1 : Bool) : Option Bool :=
 Bp (fun (v1 : Bool) =>
  some v1)
 fun j1 =>
 AE ((p0 == 1))
  (j1 true)
  (AE ((p0 == 2))
   (j1 true)
   (AE ((p0 == 3))
    (j1 (!p1))
    (AE ((p0 == 4))
     (j1 (!p1))
     (j1 false))))
def Ea (_ : Nat) (p0 : List Bool) (p1 : Int) : Option Bool :=
 some (((p0.length : Int) != p1))
def BW (N : Nat) (p0 : List (List Bool)) (p1 : (List Bool) → Option Bool) (j1 : Unit → Option Int) : Nat → Int → Option Int
 | 0, _ => none
 | n1 + 1, v1 =>
  AE ((decide (v1 < (p0.length : Int))))
   ((B9 p0 v1).bind fun v4 =>
   (p1 v4).bind fun v5 =>
   AE v5
    (some v1)
    (BW N p0 p1 j1 n1 (wI .i64 (v1 + 1))))
   (j1 ())
def C6 (N : Nat) (p0 : List (List Bool)) (p1 : (List Bool) → Option Bool) : Option Int :=
 BW N p0 p1 (fun (_ : Unit) =>
  some ((-1))) N 0
def CF (N : Nat) (p0 : List (List Bool)) (p1 : (List Bool) → Option Bool) : Option Bool :=
 (C6 N p0 p1).bind fun v1 =>
 some ((decide (0 ≤ v1)))
def FR (N : Nat) (p0 : List (List Bool)) (p1 : Int) (p2 : Int) : Option Bool :=
 Bp (fun (v1 : Bool) =>
  some v1)
 fun j1 =>
 AE (((p0.length : Int) == p1))
  ((CF N p0 ((fun (x : List Bool) => Ea N x p2))).bind fun v3 =>
  j1 (!v3))
  (j1 false)
def EI (N : Nat) (p1 : A9) (j19 : Unit → Option Int) : Nat → Int → Option Int
 | 0, _ => none
 | n19 + 1, v19 =>
  AE ((decide (v19 < (p1.fR.length : Int))))
   ((B9 p1.fR v19).bind fun v22 =>
   (B9 v22 v19).bind fun v23 =>
   AE ((!v23))
    (some 1)
    (EI N p1 j19 n19 (wI .i64 (v19 + 1))))
   (j19 ())
def HG (N : Nat) (p0 : Ad) (p1 : A9) : Option Int :=
 (It N p1.fw p1.fV).bind fun v1 =>
 AE ((!v1))
  (some 1)
  (Bp (fun (v3 : Bool) =>
   AE v3
    (some 4)
    ((B9 p0.fi p1.fF).bind fun v8 =>
    Bp (fun (v9 : Bool) =>
     AE v9
      (some 6)
      (EI N p1 (fun (_ : Unit) =>
       some 0) N 0))
    fun j9 =>
    (B9 p0.fi p1.fU).bind fun v10 =>
    (FR N p1.fJ v8 v10).bind fun v11 =>
    AE ((!v11))
     (j9 true)
     (AE ((p1.fw == 4))
      ((FR N p1.fR v8 v8).bind fun v14 =>
      AE ((!v14))
       (j9 true)
       (AE ((!((p1.fw == 4))))
        (j9 (decide (0 < (p1.fR.length : Int))))
        (j9 false)))
      (AE ((!((p1.fw == 4))))
       (j9 (decide (0 < (p1.fR.length : Int))))
       (j9 false)))))
  fun j3 =>
  (D0 N p1.fF ((p0.fi.length : Int))).bind fun v4 =>
  AE ((!v4))
   (j3 true)
   ((D0 N p1.fU ((p0.fi.length : Int))).bind fun v6 =>
   j3 (!v6)))
def C2 (N : Nat) (p0 : Ad) (j7 : Unit → Option Int) : Nat → Int → Option Int
 | 0, _ => none
 | n7 + 1, v7 =>
  AE ((decide (v7 < (p0.fi.length : Int))))
   ((B9 p0.fi v7).bind fun v10 =>
   Bp (fun (v11 : Bool) =>
    AE v11
     (some 7)
     (C2 N p0 j7 n7 (wI .i64 (v7 + 1))))
   fun j11 =>
   AE ((decide (v10 < 1)))
    (j11 true)
    (AE ((decide (6 < v10)))
     (j11 true)
     ((B9 p0.fm v7).bind fun v14 =>
     (D0 N v14 v10).bind fun v15 =>
     AE ((!v15))
      (j11 true)
      ((B9 p0.fq v7).bind fun v17 =>
      (D0 N v17 v10).bind fun v18 =>
      j11 (!v18)))))
   (j7 ())
def CS (N : Nat) (p0 : Ad) (j20 : Unit → Option Int) : Nat → Int → Option Int
 | 0, _ => none
 | n20 + 1, v20 =>
  AE ((decide (v20 < (p0.fh.length : Int))))
   ((B9 p0.fh v20).bind fun v23 =>
   (HG N p0 v23).bind fun v24 =>
   AE ((v24 != 0))
    (some v24)
    (CS N p0 j20 n20 (wI .i64 (v20 + 1))))
   (j20 ())
def Cd (N : Nat) (p0 : Ad) : Option Int :=
 Bp (fun (v1 : Bool) =>
  AE v1
   (some 3)
   (Bp (fun (v4 : Bool) =>
    AE v4
     (some 6)
     (C2 N p0 (fun (_ : Unit) =>
      CS N p0 (fun (_ : Unit) =>
       some 0) N 0) N 0))
   fun j4 =>
   AE (((p0.fm.length : Int) != (p0.fi.length : Int)))
    (j4 true)
    (j4 ((p0.fq.length : Int) != (p0.fi.length : Int)))))
 fun j1 =>
 AE ((decide (6 < (p0.fi.length : Int))))
  (j1 true)
  (j1 (decide (12 < (p0.fh.length : Int))))
def Bj (_ : Nat) (p0 : List Int) : Option ((List Int)) :=
 (E6 ((([] : List Int)).length + p0.length ≤ Hj)).bind fun _ =>
 some ((([] : List Int)) ++ p0)
def F2 (_ : Nat) (p0 : Int) (p1 : Int) : Option (Int × Int) :=
 some ((wI .u32 ((Eh .u64 ((wI .u64 ((wI .u64 p0) * (wI .u64 p1)))) 32))), (wI .u32 ((wI .u64 ((wI .u64 p0) * (wI .u64 p1))))))
def FU (_ : Nat) (p0 : Int) (p1 : Int) : Option (Int × Int) :=
 some ((wI .u64 ((wI .u64 ((wI .u64 ((Eh .u64 p0 32) * (Eh .u64 p1 32))) + (Eh .u64 ((wI .u64 ((wI .u64 ((Eh .u64 p0 32) * (Hn .u64 p1 4294967295))) + (Eh .u64 ((wI .u64 ((Hn .u64 p0 4294967295) * (Hn .u64 p1 4294967295)))) 32)))) 32))) + (Eh .u64 ((wI .u64 ((Hn .u64 ((wI .u64 ((wI .u64 ((Eh .u64 p0 32) * (Hn .u64 p1 4294967295))) + (Eh .u64 ((wI .u64 ((Hn .u64 p0 4294967295) * (Hn .u64 p1 4294967295)))) 32)))) 4294967295) + (wI .u64 ((Hn .u64 p0 4294967295) * (Eh .u64 p1 32)))))) 32))), (wI .u64 (p0 * p1)))
def GV (N : Nat) (p0 : Int) (p1 : Int) : Option (Int × Int) :=
 AE false
  ((F2 N ((wI .u32 p0)) ((wI .u32 p1))).bind fun v2 =>
  some ((wI .u64 v2.1), (wI .u64 v2.2)))
  ((FU N p0 p1).bind fun v3 =>
  some (v3.1, v3.2))
def Cu (N : Nat) (j9 : ((List Int)) → Option ((List Int))) : Nat → ((List Int) × Int) → Option ((List Int))
 | 0, _ => none
 | n9 + 1, v9 =>
  AE ((decide (v9.2 < (v9.1.length : Int))))
   ((E6 ((0 : Int) ≤ v9.2 ∧ (v9.2).toNat ≤ v9.1.length ∧ v9.1.length ≤ v9.1.length)).bind fun _ =>
   (E6 ((0 : Int) ≤ v9.2 ∧ 0 ≤ (v9.2).toNat ∧ (v9.2).toNat ≤ v9.1.length)).bind fun _ =>
   Cu N j9 n9 (JG v9.1 ((v9.2).toNat) ((((v9.1.drop 0).take ((v9.2).toNat))).take (yI (((v9.1.drop 0).take ((v9.2).toNat))).length ((v9.1.length - (v9.2).toNat)))), (wI .i64 (v9.2 + (((yI (((v9.1.drop 0).take ((v9.2).toNat))).length ((v9.1.length - (v9.2).toNat))) : Nat) : Int)))))
   (j9 v9.1)
def Ei (N : Nat) (p0 : List Int) (p1 : Int) : Option ((List Int)) :=
 Bp (fun (_ : Unit) =>
  (GV N ((wI .u64 ((p0.length : Int)))) ((wI .u64 p1))).bind fun v3 =>
  Bp (fun (_ : Unit) =>
   (E6 ((0 : Int) ≤ (wI .i64 v3.2) ∧ (wI .i64 v3.2) ≤ (wI .i64 v3.2) ∧ (wI .i64 v3.2) ≤ (Hj : Int))).bind fun _ =>
   Cu N (fun (v10 : (List Int)) =>
    some v10) N (JG (zK ((wI .i64 v3.2)).toNat ((0 : Int))) 0 (p0.take (yI p0.length ((zK ((wI .i64 v3.2)).toNat ((0 : Int))).length))), (((yI p0.length ((zK ((wI .i64 v3.2)).toNat ((0 : Int))).length)) : Nat) : Int)))
  fun j4 =>
  Bp (fun (v5 : Bool) =>
   AE v5
    (none)
    (j4 ()))
  fun j5 =>
  AE ((decide (0 < v3.1)))
   (j5 true)
   (j5 (decide (9223372036854775807 < v3.2))))
 fun j1 =>
 AE ((decide (p1 < 0)))
  (none)
  (j1 ())
def FF (_ : Nat) (p0 : A9) : Option Bool :=
 Bp (fun (v1 : Bool) =>
  some v1)
 fun j1 =>
 AE ((p0.fw == 3))
  (j1 true)
  (j1 (p0.fw == 4))
def FN (N : Nat) (p0 : Ad) (j6 : ((List Int)) → Option (Ai × Int)) : Nat → ((List Int) × Int) → Option (Ai × Int)
 | 0, _ => none
 | n6 + 1, v6 =>
  AE ((decide (v6.2 < (p0.fh.length : Int))))
   (Bp (fun (v9 : (List Int)) =>
    FN N p0 j6 n6 (v9, (wI .i64 (v6.2 + 1))))
   fun j9 =>
   (B9 p0.fh v6.2).bind fun v10 =>
   (FF N v10).bind fun v11 =>
   AE v11
    ((B9 p0.fm v10.fF).bind fun v13 =>
    (E6 (0 ≤ v13)).bind fun _ =>
    (B9 v6.1 v6.2).bind fun _ =>
    j9 (v6.1.set ((v6.2).toNat) ((GI .u8 1 v13))))
    (j9 v6.1))
   (j6 v6.1)
def Fm (N : Nat) (p0 : Ad) : Option (Ai × Int) :=
 (Cd N p0).bind fun v1 =>
 AE ((v1 != 0))
  (some ((Ai.mk (([] : List Int)) (([] : List Int)) (([] : List Int))), v1))
  ((Bj N p0.fm).bind fun v3 =>
  (Ei N (([(-1)] : List Int)) ((p0.fm.length : Int))).bind fun v4 =>
  (E6 ((0 : Int) ≤ (p0.fh.length : Int) ∧ (p0.fh.length : Int) ≤ (p0.fh.length : Int) ∧ (p0.fh.length : Int) ≤ (Hj : Int))).bind fun _ =>
  FN N p0 (fun (v7 : (List Int)) =>
   some ((Ai.mk v3 v4 v7), 0)) N (zK ((p0.fh.length : Int)).toNat ((0 : Int)), 0))
def Fa (_ : Nat) (p0 : Ai) (p1 : Int) : Option Int :=
 (B9 p0.ff p1).bind fun v1 =>
 (E6 (0 ≤ v1)).bind fun _ =>
 Bp (fun (v3 : Int) =>
  some v3)
 fun j3 =>
 (B9 p0.fd p1).bind fun v4 =>
 AE ((decide (0 ≤ v4)))
  ((B9 p0.fd p1).bind fun v6 =>
  (E6 (0 ≤ v6)).bind fun _ =>
  j3 (O2 .u8 ((GI .u8 1 v1)) ((GI .u8 1 v6))))
  (j3 (GI .u8 1 v1))
def FI (N : Nat) (p0 : Ad) (p1 : Ai) (j7 : Unit → Option Int) : Nat → Int → Option Int
 | 0, _ => none
 | n7 + 1, v7 =>
  AE ((decide (v7 < (p0.fi.length : Int))))
   ((B9 p0.fi v7).bind fun v10 =>
   Bp (fun (v11 : Bool) =>
    AE v11
     (some 7)
     ((B9 p1.ff v7).bind fun v20 =>
     (B9 p1.fd v7).bind fun v21 =>
     AE ((v20 == v21))
      (some 1)
      (FI N p0 p1 j7 n7 (wI .i64 (v7 + 1)))))
   fun j11 =>
   (B9 p1.ff v7).bind fun v12 =>
   AE ((decide (v12 < 0)))
    (j11 true)
    ((B9 p1.ff v7).bind fun v14 =>
    AE ((decide (v10 ≤ v14)))
     (j11 true)
     ((B9 p1.fd v7).bind fun v16 =>
     AE ((decide (v16 < (-1))))
      (j11 true)
      ((B9 p1.fd v7).bind fun v18 =>
      j11 (decide (v10 ≤ v18))))))
   (j7 ())
def Fs (N : Nat) (p0 : Ad) (p1 : Ai) (j23 : Unit → Option Int) : Nat → Int → Option Int
 | 0, _ => none
 | n23 + 1, v23 =>
  AE ((decide (v23 < (p0.fh.length : Int))))
   ((B9 p0.fh v23).bind fun v26 =>
   Bp (fun (v27 : Int × Int) =>
    Bp (fun (v33 : Bool) =>
     AE v33
      (some 1)
      (Fs N p0 p1 j23 n23 (wI .i64 (v23 + 1))))
    fun j33 =>
    (B9 p1.fg v23).bind fun v34 =>
    AE (((IY .u8 v27.1 v34) != 0))
     (j33 true)
     ((B9 p1.fg v23).bind fun v36 =>
     j33 ((IY .u8 v36 v27.2) != 0)))
   fun j27 =>
   (FF N v26).bind fun v28 =>
   AE v28
    ((Fa N p1 v26.fF).bind fun v30 =>
    (B9 p0.fi v26.fF).bind fun v31 =>
    (E6 (0 ≤ v31)).bind fun _ =>
    j27 (v30, (wI .u8 ((GI .u8 1 v31) - 1))))
    (j27 (0, 0)))
   (j23 ())
def EH (N : Nat) (p0 : Ad) (p1 : Ai) : Option Int :=
 (Cd N p0).bind fun v1 =>
 AE ((v1 != 0))
  (some v1)
  (Bp (fun (v3 : Bool) =>
   AE v3
    (some 6)
    (FI N p0 p1 (fun (_ : Unit) =>
     Fs N p0 p1 (fun (_ : Unit) =>
      some 0) N 0) N 0))
  fun j3 =>
  AE (((p1.ff.length : Int) != (p0.fi.length : Int)))
   (j3 true)
   (AE (((p1.fd.length : Int) != (p0.fi.length : Int)))
    (j3 true)
    (j3 ((p1.fg.length : Int) != (p0.fh.length : Int)))))
def BA (_ : Nat) (p0 : List Int) : Option ((List Int)) :=
 (E6 ((([] : List Int)).length + p0.length ≤ Hj)).bind fun _ =>
 some ((([] : List Int)) ++ p0)
def Fo (N : Nat) (p1 : Ai) (j3 : ((List Int)) → Option ((List Ai) × Int)) : Nat → ((List Int) × Int) → Option ((List Ai) × Int)
 | 0, _ => none
 | n3 + 1, v3 =>
  AE ((decide (v3.2 < (p1.fd.length : Int))))
   (Bp (fun (v6 : (List Int)) =>
    Fo N p1 j3 n3 (v6, (wI .i64 (v3.2 + 1))))
   fun j6 =>
   (B9 p1.fd v3.2).bind fun v7 =>
   AE ((decide (0 ≤ v7)))
    ((E6 (v3.1.length + (([v3.2] : List Int)).length ≤ Hj)).bind fun _ =>
    j6 (v3.1 ++ (([v3.2] : List Int))))
    (j6 v3.1))
   (j3 v3.1)
def EZ (N : Nat) (v4 : (List Int)) (v11 : (List Ai) × Int) (j17 : ((List Int)) → Option ((List Ai) × Int)) : Nat → ((List Int) × Int) → Option ((List Ai) × Int)
 | 0, _ => none
 | n17 + 1, v17 =>
  AE ((decide (v17.2 < (v4.length : Int))))
   (Bp (fun (v20 : (List Int)) =>
    EZ N v4 v11 j17 n17 (v20, (wI .i64 (v17.2 + 1))))
   fun j20 =>
   (B9 v4 v17.2).bind fun v21 =>
   (E6 (0 ≤ v17.2)).bind fun _ =>
   AE (((Hn .i64 ((Eh .i64 v11.2 v17.2)) 1) == 1))
    ((B9 v17.1 v21).bind fun _ =>
    j20 (v17.1.set ((v21).toNat) ((-1))))
    (j20 v17.1))
   (j17 v17.1)
def E3 (N : Nat) (p1 : Ai) (v4 : (List Int)) (j11 : ((List Ai)) → Option ((List Ai) × Int)) : Nat → ((List Ai) × Int) → Option ((List Ai) × Int)
 | 0, _ => none
 | n11 + 1, v11 =>
  AE ((decide (v11.2 < (GI .i64 1 ((v4.length : Int))))))
   ((Bj N p1.ff).bind fun v14 =>
   (Bj N p1.fd).bind fun v15 =>
   (BA N p1.fg).bind fun v16 =>
   EZ N v4 v11 (fun (v18 : (List Int)) =>
    (E6 (v11.1.length + (([(Ai.mk v14 v18 v16)] : List Ai)).length ≤ Hj)).bind fun _ =>
    E3 N p1 v4 j11 n11 (v11.1 ++ (([(Ai.mk v14 v18 v16)] : List Ai)), (wI .i64 (v11.2 + 1)))) N (v15, 0))
   (j11 v11.1)
def Ij (N : Nat) (p0 : Ad) (p1 : Ai) : Option ((List Ai) × Int) :=
 (EH N p0 p1).bind fun v1 =>
 AE ((v1 != 0))
  (some (([] : List Ai), v1))
  (Fo N p1 (fun (v4 : (List Int)) =>
   (E6 (0 ≤ (v4.length : Int))).bind fun _ =>
   E3 N p1 v4 (fun (v12 : (List Ai)) =>
    some (v12, 0)) N (([] : List Ai), 0)) N (([] : List Int), 0))
def D7 (N : Nat) (v1 : (List AD) × Int) (v4 : A9) (v6 : Int) (v11 : (List AD) × Int) (v17 : List Bool) (j18 : ((List AD) × Bool) → Option ((List AD))) : Nat → ((List AD) × Bool × Int) → Option ((List AD))
 | 0, _ => none
 | n18 + 1, v18 =>
  AE ((decide (v18.2.2 < (v17.length : Int))))
   (Bp (fun (v21 : (List AD) × Bool) =>
    D7 N v1 v4 v6 v11 v17 j18 n18 (v21.1, v21.2, (wI .i64 (v18.2.2 + 1))))
   fun j21 =>
   (B9 v17 v18.2.2).bind fun v22 =>
   (E6 (0 ≤ v18.2.2)).bind fun _ =>
   AE (((Hn .u8 ((Eh .u8 v6 v18.2.2)) 1) == 0))
    (j21 (v18.1, v18.2.1))
    (Bp (fun (v25 : Bool) =>
     Bp (fun (v27 : Bool) =>
      AE v27
       ((E6 (v18.1.length + (([(AD.mk v1.2 v11.2 v18.2.2)] : List AD)).length ≤ Hj)).bind fun _ =>
       j21 (v18.1 ++ (([(AD.mk v1.2 v11.2 v18.2.2)] : List AD)), v25))
       (j21 (v18.1, v25)))
     fun j27 =>
     AE ((!v22))
      (j27 (!v4.fV))
      (j27 false))
    fun j25 =>
    AE v18.2.1
     (j25 true)
     (j25 v22)))
   (j18 (v18.1, v18.2.1))
def D8 (N : Nat) (v1 : (List AD) × Int) (v4 : A9) (v6 : Int) (v7 : Int) (j11 : ((List AD)) → Option ((List AD))) : Nat → ((List AD) × Int) → Option ((List AD))
 | 0, _ => none
 | n11 + 1, v11 =>
  AE ((decide (v11.2 < (v4.fJ.length : Int))))
   (Bp (fun (v14 : (List AD)) =>
    D8 N v1 v4 v6 v7 j11 n11 (v14, (wI .i64 (v11.2 + 1))))
   fun j14 =>
   (E6 (0 ≤ v11.2)).bind fun _ =>
   AE (((Hn .u8 ((Eh .u8 v7 v11.2)) 1) == 0))
    (j14 v11.1)
    ((B9 v4.fJ v11.2).bind fun v17 =>
    D7 N v1 v4 v6 v11 v17 (fun (v19 : (List AD) × Bool) =>
     Bp (fun (v31 : Bool) =>
      AE v31
       ((E6 (v19.1.length + (([(AD.mk v1.2 v11.2 ((-1)))] : List AD)).length ≤ Hj)).bind fun _ =>
       j14 (v19.1 ++ (([(AD.mk v1.2 v11.2 ((-1)))] : List AD))))
       (j14 v19.1))
     fun j31 =>
     AE v4.fV
      (j31 (!v19.2))
      (j31 false)) N (v11.1, false, 0)))
   (j11 v11.1)
def Er (N : Nat) (p0 : Ad) (p1 : Ai) (j1 : ((List AD)) → Option ((List AD))) : Nat → ((List AD) × Int) → Option ((List AD))
 | 0, _ => none
 | n1 + 1, v1 =>
  AE ((decide (v1.2 < (p0.fh.length : Int))))
   ((B9 p0.fh v1.2).bind fun v4 =>
   (Fa N p1 v4.fF).bind fun v5 =>
   (Fa N p1 v4.fU).bind fun v6 =>
   Bp (fun (v7 : Int) =>
    D8 N v1 v4 v6 v7 (fun (v12 : (List AD)) =>
     Er N p0 p1 j1 n1 (v12, (wI .i64 (v1.2 + 1)))) N (v1.1, 0))
   fun j7 =>
   (FF N v4).bind fun v8 =>
   AE v8
    ((B9 p1.fg v1.2).bind fun v10 =>
    j7 v10)
    (j7 v5))
   (j1 v1.1)
def GQ (N : Nat) (p0 : Ad) (p1 : Ai) : Option ((List AD)) :=
 Er N p0 p1 (fun (v2 : (List AD)) =>
  some v2) N (([] : List AD), 0)
def FO (N : Nat) (p0 : Ad) (v1 : (List Ai) × Int) (j3 : Unit → Option (Ai × AD × Int)) : Nat → Int → Option (Ai × AD × Int)
 | 0, _ => none
 | n3 + 1, v3 =>
  AE ((decide (v3 < (v1.1.length : Int))))
   ((B9 v1.1 v3).bind fun v6 =>
   (GQ N p0 v6).bind fun v7 =>
   AE ((decide (0 < (v7.length : Int))))
    ((B9 v7 0).bind fun v9 =>
    some (v6, v9, 0))
    (FO N p0 v1 j3 n3 (wI .i64 (v3 + 1))))
   (j3 ())
def GC (N : Nat) (p0 : Ad) (p1 : Ai) : Option (Ai × AD × Int) :=
 (Ij N p0 p1).bind fun v1 =>
 AE ((v1.2 != 0))
  (some ((Ai.mk (([] : List Int)) (([] : List Int)) (([] : List Int))), (AD.mk 0 0 0), v1.2))
  (FO N p0 v1 (fun (_ : Unit) =>
   some ((Ai.mk (([] : List Int)) (([] : List Int)) (([] : List Int))), (AD.mk 0 0 0), 15)) N 0)
def G8 (N : Nat) (p0 : Ad) (p1 : Ai) : Option (Bool × Int) :=
 (GC N p0 p1).bind fun v1 =>
 AE ((v1.2.2 == 0))
  (some (false, 0))
  (AE ((v1.2.2 == 15))
   (some (true, 0))
   (some (false, v1.2.2)))
def Gk (N : Nat) (p0 : Ai) (j2 : ((List Int)) → Option ByteArray) : Nat → ((List Int) × Int) → Option ByteArray
 | 0, _ => none
 | n2 + 1, v2 =>
  AE ((decide (v2.2 < (p0.ff.length : Int))))
   ((B9 p0.ff v2.2).bind fun v5 =>
   (B9 p0.fd v2.2).bind fun v6 =>
   (E6 (v2.1.length + (([(wI .u8 v5), (wI .u8 ((wI .i64 (v6 + 1))))] : List Int)).length ≤ Hj)).bind fun _ =>
   Gk N p0 j2 n2 (v2.1 ++ (([(wI .u8 v5), (wI .u8 ((wI .i64 (v6 + 1))))] : List Int)), (wI .i64 (v2.2 + 1))))
   (j2 v2.1)
def Gi (N : Nat) (p0 : Ai) (j8 : ((List Int)) → Option ByteArray) : Nat → ((List Int) × Int) → Option ByteArray
 | 0, _ => none
 | n8 + 1, v8 =>
  AE ((decide (v8.2 < (p0.fg.length : Int))))
   ((B9 p0.fg v8.2).bind fun v11 =>
   (E6 (v8.1.length + (([v11] : List Int)).length ≤ Hj)).bind fun _ =>
   Gi N p0 j8 n8 (v8.1 ++ (([v11] : List Int)), (wI .i64 (v8.2 + 1))))
   (j8 v8.1)
def Ib (N : Nat) (p0 : Ai) : Option ByteArray :=
 (E6 ((0 : Int) ≤ 0 ∧ 0 ≤ (wI .i64 ((wI .i64 (2 * (p0.ff.length : Int))) + (p0.fg.length : Int))) ∧ (wI .i64 ((wI .i64 (2 * (p0.ff.length : Int))) + (p0.fg.length : Int))) ≤ (Hj : Int))).bind fun _ =>
 Gk N p0 (fun (v3 : (List Int)) =>
  Gi N p0 (fun (v9 : (List Int)) =>
   some ((DL v9))) N (v3, 0)) N (zK (0 : Int).toNat ((0 : Int)), 0)
def GG (N : Nat) (v1 : (List Al) × Int) (v4 : Int) (j5 : ((List Al)) → Option ((List Al))) : Nat → ((List Al) × Int) → Option ((List Al))
 | 0, _ => none
 | n5 + 1, v5 =>
  AE ((decide (v5.2 < v4)))
   ((E6 (v5.1.length + (([(Al.mk 1 v1.2 v5.2)] : List Al)).length ≤ Hj)).bind fun _ =>
   GG N v1 v4 j5 n5 (v5.1 ++ (([(Al.mk 1 v1.2 v5.2)] : List Al)), (wI .i64 (v5.2 + 1))))
   (j5 v5.1)
def Gf (N : Nat) (p0 : Ad) (j1 : ((List Al)) → Option ((List Al))) : Nat → ((List Al) × Int) → Option ((List Al))
 | 0, _ => none
 | n1 + 1, v1 =>
  AE ((decide (v1.2 < (p0.fi.length : Int))))
   ((B9 p0.fi v1.2).bind fun v4 =>
   GG N v1 v4 (fun (v6 : (List Al)) =>
    Gf N p0 j1 n1 (v6, (wI .i64 (v1.2 + 1)))) N (v1.1, 0))
   (j1 v1.1)
def Gr (N : Nat) (p0 : Ad) (j9 : ((List Al)) → Option ((List Al))) : Nat → ((List Al) × Int) → Option ((List Al))
 | 0, _ => none
 | n9 + 1, v9 =>
  AE ((decide (v9.2 < (p0.fi.length : Int))))
   ((E6 (v9.1.length + (([(Al.mk 2 v9.2 0)] : List Al)).length ≤ Hj)).bind fun _ =>
   Gr N p0 j9 n9 (v9.1 ++ (([(Al.mk 2 v9.2 0)] : List Al)), (wI .i64 (v9.2 + 1))))
   (j9 v9.1)
def FJ (N : Nat) (p0 : Ad) (j13 : ((List Al)) → Option ((List Al))) : Nat → ((List Al) × Int) → Option ((List Al))
 | 0, _ => none
 | n13 + 1, v13 =>
  AE ((decide (v13.2 < (p0.fh.length : Int))))
   ((E6 (v13.1.length + (([(Al.mk 3 v13.2 0)] : List Al)).length ≤ Hj)).bind fun _ =>
   FJ N p0 j13 n13 (v13.1 ++ (([(Al.mk 3 v13.2 0)] : List Al)), (wI .i64 (v13.2 + 1))))
   (j13 v13.1)
def Jh (N : Nat) (p0 : Ad) : Option ((List Al)) :=
 Gf N p0 (fun (v2 : (List Al)) =>
  Gr N p0 (fun (v10 : (List Al)) =>
   FJ N p0 (fun (v14 : (List Al)) =>
    some v14) N (v10, 0)) N (v2, 0)) N (([] : List Al), 0)
def Gn (N : Nat) (p0 : Ai) : Option Ai :=
 (Bj N p0.ff).bind fun v1 =>
 (Bj N p0.fd).bind fun v2 =>
 (BA N p0.fg).bind fun v3 =>
 some ((Ai.mk v1 v2 v3))
def GE (_ : Nat) (p0 : A9) : Option Bool :=
 Bp (fun (v1 : Bool) =>
  some v1)
 fun j1 =>
 AE ((p0.fw == 3))
  (j1 true)
  (j1 (p0.fw == 4))
def Fl (N : Nat) (p0 : Ad) (p2 : Al) (j7 : ((List Int)) → Option (Bool × (List Int) × (List Int))) : Nat → ((List Int) × Int) → Option (Bool × (List Int) × (List Int))
 | 0, _ => none
 | n7 + 1, v7 =>
  AE ((decide (v7.2 < (p0.fh.length : Int))))
   (Bp (fun (v10 : (List Int)) =>
    Fl N p0 p2 j7 n7 (v10, (wI .i64 (v7.2 + 1))))
   fun j10 =>
   (B9 p0.fh v7.2).bind fun v11 =>
   Bp (fun (v12 : Bool) =>
    AE v12
     ((B9 v7.1 v7.2).bind fun v16 =>
     (E6 (0 ≤ p2.fA)).bind fun _ =>
     (B9 v7.1 v7.2).bind fun _ =>
     j10 (v7.1.set ((v7.2).toNat) ((O2 .u8 v16 ((GI .u8 1 p2.fA))))))
     (j10 v7.1))
   fun j12 =>
   AE ((v11.fF == p2.fy))
    ((GE N v11).bind fun v14 =>
    j12 v14)
    (j12 false))
   (j7 v7.1)
def Id (N : Nat) (p0 : Ad) (p1 : Ai) (p2 : Al) : Option (Bool × (List Int) × (List Int)) :=
 Bp (fun (v1 : Bool) =>
  AE v1
   (some (false, p1.fd, p1.fg))
   ((B9 p1.fd p2.fy).bind fun _ =>
   Fl N p0 p2 (fun (v8 : (List Int)) =>
    some (true, p1.fd.set ((p2.fy).toNat) p2.fA, v8)) N (p1.fg, 0)))
 fun j1 =>
 (B9 p1.fd p2.fy).bind fun v2 =>
 AE ((decide (0 ≤ v2)))
  (j1 true)
  ((B9 p1.ff p2.fy).bind fun v4 =>
  j1 (v4 == p2.fA))
def Ho (_ : Nat) (p0 : Ai) (p1 : Int) : Option Int :=
 (B9 p0.ff p1).bind fun v1 =>
 (E6 (0 ≤ v1)).bind fun _ =>
 Bp (fun (v3 : Int) =>
  some v3)
 fun j3 =>
 (B9 p0.fd p1).bind fun v4 =>
 AE ((decide (0 ≤ v4)))
  ((B9 p0.fd p1).bind fun v6 =>
  (E6 (0 ≤ v6)).bind fun _ =>
  j3 (O2 .u8 ((GI .u8 1 v1)) ((GI .u8 1 v6))))
  (j3 (GI .u8 1 v1))
def Do (_ : Nat) (p0 : Int) : Option Int :=
 (HH ((⟨⟨(List.append (List.append [8, 0, 1, 0, 2, 0, 1, 0, 3, 0, 1, 0, 2, 0, 1, 0, 4, 0, 1, 0, 2, 0, 1, 0, 3, 0, 1, 0, 2, 0, 1, 0, 5, 0, 1, 0, 2, 0, 1, 0, 3, 0, 1, 0, 2, 0, 1, 0, 4, 0, 1, 0, 2, 0, 1, 0, 3, 0, 1, 0, 2, 0, 1, 0] [6, 0, 1, 0, 2, 0, 1, 0, 3, 0, 1, 0, 2, 0, 1, 0, 4, 0, 1, 0, 2, 0, 1, 0, 3, 0, 1, 0, 2, 0, 1, 0, 5, 0, 1, 0, 2, 0, 1, 0, 3, 0, 1, 0, 2, 0, 1, 0, 4, 0, 1, 0, 2, 0, 1, 0, 3, 0, 1, 0, 2, 0, 1, 0]) (List.append [7, 0, 1, 0, 2, 0, 1, 0, 3, 0, 1, 0, 2, 0, 1, 0, 4, 0, 1, 0, 2, 0, 1, 0, 3, 0, 1, 0, 2, 0, 1, 0, 5, 0, 1, 0, 2, 0, 1, 0, 3, 0, 1, 0, 2, 0, 1, 0, 4, 0, 1, 0, 2, 0, 1, 0, 3, 0, 1, 0, 2, 0, 1, 0] [6, 0, 1, 0, 2, 0, 1, 0, 3, 0, 1, 0, 2, 0, 1, 0, 4, 0, 1, 0, 2, 0, 1, 0, 3, 0, 1, 0, 2, 0, 1, 0, 5, 0, 1, 0, 2, 0, 1, 0, 3, 0, 1, 0, 2, 0, 1, 0, 4, 0, 1, 0, 2, 0, 1, 0, 3, 0, 1, 0, 2, 0, 1, 0]))⟩⟩ : ByteArray)) p0).bind fun v1 =>
 some ((wI .i64 v1))
def DI (N : Nat) (p0 : A9) (p2 : Int) (j1 : Unit → Option Bool) : Nat → Int → Option Bool
 | 0, _ => none
 | n1 + 1, v1 =>
  AE ((v1 != 0))
   ((Do N v1).bind fun v4 =>
   (B9 p0.fR v4).bind fun v5 =>
   (B9 v5 p2).bind fun v6 =>
   AE ((!v6))
    (some false)
    (DI N p0 p2 j1 n1 (Hn .u8 v1 ((wI .u8 (v1 - 1))))))
   (j1 ())
def F0 (N : Nat) (p0 : A9) (p1 : Int) (p2 : Int) : Option Bool :=
 DI N p0 p2 (fun (_ : Unit) =>
  some true) N p1
def Ik (N : Nat) (p0 : Ad) (p1 : Ai) (p2 : Int) : Option (Bool × (List Int)) :=
 (B9 p0.fh p2).bind fun v1 =>
 (GE N v1).bind fun v2 =>
 AE ((!v2))
  (some (false, p1.fg))
  ((Ho N p1 v1.fF).bind fun v4 =>
  (B9 p1.fg p2).bind fun v5 =>
  Bp (fun (v6 : Bool) =>
   AE v6
    (some (false, p1.fg))
    ((B9 p1.fg p2).bind fun _ =>
    some (true, p1.fg.set ((p2).toNat) v4)))
  fun j6 =>
  (B9 p1.fg p2).bind fun v7 =>
  AE ((v7 == v4))
   (j6 true)
   (AE ((v1.fw == 4))
    ((B9 p1.ff v1.fF).bind fun v10 =>
    (F0 N v1 ((IY .u8 v5 v4)) v10).bind fun v11 =>
    j6 (!v11))
    (j6 false)))
def G6 (N : Nat) (p0 : Ad) (p1 : Ai) (p2 : Al) : Option (Ai × Bool) :=
 (Gn N p1).bind fun v1 =>
 AE ((p2.fw == 1))
  ((Id N p0 v1 p2).bind fun v3 =>
  some ((Ai.mk v1.ff v3.2.1 v3.2.2), v3.1))
  (AE ((p2.fw == 3))
   ((Ik N p0 v1 p2.fy).bind fun v5 =>
   some ((Ai.mk v1.ff v1.fd v5.2), v5.1))
   ((B9 v1.fd p2.fy).bind fun v6 =>
   AE ((decide (v6 < 0)))
    (some (v1, false))
    ((B9 v1.fd p2.fy).bind fun _ =>
    Bp (fun (v9 : (List Int)) =>
     some ((Ai.mk v9 (v1.fd.set ((p2.fy).toNat) ((-1))) v1.fg), true))
    fun j9 =>
    AE ((p2.fw == 2))
     ((B9 v1.ff p2.fy).bind fun _ =>
     j9 (v1.ff.set ((p2.fy).toNat) v6))
     (j9 v1.ff))))
def D2 (N : Nat) (p0 : Al) (p1 : List Int) (p2 : List Int) (p3 : List Int) (p4 : List A9) (p5 : List Int) (p6 : List Int) (p7 : List Int) : Option Bool :=
 (G6 N ((Ad.mk p1 p2 p3 p4)) ((Ai.mk p5 p6 p7)) p0).bind fun v1 =>
 some ((!v1.2))
def Bu (N : Nat) (p0 : List Al) (p1 : Al → Option Bool) (j1 : Unit → Option Int) : Nat → Int → Option Int
 | 0, _ => none
 | n1 + 1, v1 =>
  AE ((decide (v1 < (p0.length : Int))))
   ((B9 p0 v1).bind fun v4 =>
   (p1 v4).bind fun v5 =>
   AE v5
    (some v1)
    (Bu N p0 p1 j1 n1 (wI .i64 (v1 + 1))))
   (j1 ())
def B3 (N : Nat) (p0 : List Al) (p1 : Al → Option Bool) : Option Int :=
 Bu N p0 p1 (fun (_ : Unit) =>
  some ((-1))) N 0
def Br (N : Nat) (p1 : Al → Option Bool) (j3 : ((List Al) × Int) → Option (Nat × (List Al))) : Nat → ((List Al) × Int × Int) → Option (Nat × (List Al))
 | 0, _ => none
 | n3 + 1, v3 =>
  AE ((decide (v3.2.2 < (v3.1.length : Int))))
   (Bp (fun (v6 : (List Al) × Int) =>
    Br N p1 j3 n3 (v6.1, v6.2, (wI .i64 (v3.2.2 + 1))))
   fun j6 =>
   (B9 v3.1 v3.2.2).bind fun v7 =>
   (p1 v7).bind fun v8 =>
   AE ((!v8))
    ((B9 v3.1 v3.2.1).bind fun _ =>
    j6 (v3.1.set ((v3.2.1).toNat) v7, (wI .i64 (v3.2.1 + 1))))
    (j6 (v3.1, v3.2.1)))
   (j3 (v3.1, v3.2.1))
def BZ (N : Nat) (p0 : List Al) (p1 : Al → Option Bool) : Option (Nat × (List Al)) :=
 (B3 N p0 p1).bind fun v1 =>
 AE ((v1 == (-1)))
  (some (p0.length, p0))
  (Br N p1 (fun (v4 : (List Al) × Int) =>
   (E6 ((0 : Int) ≤ v4.2 ∧ (v4.2).toNat ≤ v4.1.length ∧ v4.1.length ≤ v4.1.length)).bind fun _ =>
   (E6 ((0 : Int) ≤ v4.2 ∧ 0 ≤ (v4.2).toNat ∧ (v4.2).toNat ≤ (JG v4.1 ((v4.2).toNat) (zK ((v4.1.length - (v4.2).toNat)) ((Al.mk 0 0 0)))).length)).bind fun _ =>
   some ((v4.2).toNat, JG v4.1 ((v4.2).toNat) (zK ((v4.1.length - (v4.2).toNat)) ((Al.mk 0 0 0))))) N (p0, v1, (wI .i64 (v1 + 1))))
def Hp (N : Nat) (p0 : Ad) (p1 : Ai) : Option ((List Al) × Int) :=
 (EH N p0 p1).bind fun v1 =>
 AE ((v1 != 0))
  (some (([] : List Al), v1))
  ((Jh N p0).bind fun v3 =>
  (BZ N v3 ((fun (x : Al) => D2 N x p0.fi p0.fm p0.fq p0.fh p1.ff p1.fd p1.fg))).bind fun v4 =>
  (E6 (v4.1 ≤ v4.2.length)).bind fun _ =>
  some (v4.2.take v4.1, 0))
def Ig (_ : Nat) (p0 : Al) : Option Bool :=
 Bp (fun (v1 : Bool) =>
  AE v1
   (some false)
   (Bp (fun (v5 : Bool) =>
    some v5)
   fun j5 =>
   AE ((p0.fw == 1))
    (j5 true)
    (j5 (p0.fA == 0))))
 fun j1 =>
 AE ((decide ((Ox p0.fy p0.fA) < 0)))
  (j1 true)
  (AE ((decide (p0.fw < 1)))
   (j1 true)
   (j1 (decide (4 < p0.fw))))
def HS (_ : Nat) (p0 : Ad) (p1 : Al) : Option Bool :=
 AE ((p1.fw == 3))
  (some ((decide (p1.fy < (p0.fh.length : Int)))))
  (Bp (fun (v2 : Bool) =>
   some v2)
  fun j2 =>
  AE ((decide (p1.fy < (p0.fi.length : Int))))
   (AE ((p1.fw != 1))
    (j2 true)
    ((B9 p0.fi p1.fy).bind fun v5 =>
    j2 (decide (p1.fA < v5))))
   (j2 false))
def G5 (N : Nat) (p0 : Ad) (p1 : Ai) (p2 : Al) : Option (Ai × Int) :=
 (Ig N p2).bind fun v1 =>
 AE ((!v1))
  (some ((Ai.mk (([] : List Int)) (([] : List Int)) (([] : List Int))), 1))
  ((HS N p0 p2).bind fun v3 =>
  AE ((!v3))
   (some ((Ai.mk (([] : List Int)) (([] : List Int)) (([] : List Int))), 4))
   ((G6 N p0 p1 p2).bind fun v5 =>
   AE ((!v5.2))
    (some ((Ai.mk (([] : List Int)) (([] : List Int)) (([] : List Int))), 11))
    (some (v5.1, 0))))
def Ee (N : Nat) (p0 : Ad) (p1 : Ai) (p2 : Al) : Option (Ai × Int) :=
 (EH N p0 p1).bind fun v1 =>
 AE ((v1 != 0))
  (some ((Ai.mk (([] : List Int)) (([] : List Int)) (([] : List Int))), v1))
  ((G5 N p0 p1 p2).bind fun v3 =>
  some (v3.1, v3.2))
def E2 (N : Nat) (p0 : Ad) (v2 : (List AN) × (List (ByteArray × Int)) × Int) (v6 : (List Al) × Int) (j8 : ((List AN) × (List (ByteArray × Int))) → Option ((List AN) × Int)) : Nat → ((List AN) × (List (ByteArray × Int)) × Int) → Option ((List AN) × Int)
 | 0, _ => none
 | n8 + 1, v8 =>
  AE ((decide (v8.2.2 < (v6.1.length : Int))))
   ((B9 v6.1 v8.2.2).bind fun v11 =>
   (B9 v8.1 v2.2.2).bind fun v12 =>
   (Ee N p0 ((Ai.mk v12.fD.ff v12.fD.fd v12.fD.fg)) v11).bind fun v13 =>
   AE ((v13.2 != 0))
    (some (([] : List AN), v13.2))
    ((Ib N v13.1).bind fun v15 =>
    Bp (fun (v16 : (List AN) × (List (ByteArray × Int)) × Int) =>
     Bp (fun (v24 : (List AN)) =>
      AE ((decide (20000 < (v24.length : Int))))
       (some (([] : List AN), 3))
       (E2 N p0 v2 v6 j8 n8 (v24, v16.2.1, (wI .i64 (v8.2.2 + 1)))))
     fun j24 =>
     AE ((decide (0 ≤ v16.2.2)))
      ((B9 v16.1 v2.2.2).bind fun v26 =>
      (E6 (v26.fd.length + (([v16.2.2] : List Int)).length ≤ Hj)).bind fun _ =>
      (B9 v16.1 v2.2.2).bind fun v28 =>
      j24 (v16.1.set ((v2.2.2).toNat) ((AN.mk ((Ai.mk v28.fD.ff v28.fD.fd v28.fD.fg)) v28.fF ((Al.mk v28.fG.fw v28.fG.fy v28.fG.fA)) (v26.fd ++ (([v16.2.2] : List Int)))))))
      (j24 v16.1))
    fun j16 =>
    AE ((!((IW v15 v8.2.1).isSome)))
     (Bp (fun (v18 : (List AN) × Int) =>
      j16 (v18.1, Lc v15 v18.2 v8.2.1, v18.2))
     fun j18 =>
     (G8 N p0 v13.1).bind fun v19 =>
     Bp (fun (v20 : Bool) =>
      AE v20
       (j18 (v8.1, (-1)))
       ((E6 (v8.1.length + (([(AN.mk v13.1 v2.2.2 v11 (([] : List Int)))] : List AN)).length ≤ Hj)).bind fun _ =>
       j18 (v8.1 ++ (([(AN.mk v13.1 v2.2.2 v11 (([] : List Int)))] : List AN)), (v8.1.length : Int))))
     fun j20 =>
     AE ((v19.2 != 0))
      (j20 true)
      (j20 (!v19.1)))
     (j16 (v8.1, v8.2.1, ((IW v15 v8.2.1).getD 0)))))
   (j8 (v8.1, v8.2.1))
def E1 (N : Nat) (p0 : Ad) (j2 : ((List AN)) → Option ((List AN) × Int)) : Nat → ((List AN) × (List (ByteArray × Int)) × Int) → Option ((List AN) × Int)
 | 0, _ => none
 | n2 + 1, v2 =>
  AE ((decide (v2.2.2 < (v2.1.length : Int))))
   ((B9 v2.1 v2.2.2).bind fun v5 =>
   (Hp N p0 ((Ai.mk v5.fD.ff v5.fD.fd v5.fD.fg))).bind fun v6 =>
   AE ((v6.2 != 0))
    (some (([] : List AN), v6.2))
    (E2 N p0 v2 v6 (fun (v9 : (List AN) × (List (ByteArray × Int))) =>
     E1 N p0 j2 n2 (v9.1, v9.2, (wI .i64 (v2.2.2 + 1)))) N (v2.1, v2.2.1, 0)))
   (j2 v2.1)
def HW (N : Nat) (p0 : Ad) (p1 : Ai) : Option ((List AN) × Int) :=
 (Ib N p1).bind fun v1 =>
 E1 N p0 (fun (v3 : (List AN)) =>
  some (v3, 0)) N (([(AN.mk p1 ((-1)) ((Al.mk 0 0 0)) (([] : List Int)))] : List AN), Lc v1 0 (([] : List (ByteArray × Int))), 0)
def CA (N : Nat) (p0 : List Int) (p1 : List Int) (j2 : Unit → Option Bool) : Nat → Int → Option Bool
 | 0, _ => none
 | n2 + 1, v2 =>
  AE ((decide (v2 < (p0.length : Int))))
   ((B9 p0 v2).bind fun v5 =>
   (B9 p1 v2).bind fun v6 =>
   AE ((v5 != v6))
    (some false)
    (CA N p0 p1 j2 n2 (wI .i64 (v2 + 1))))
   (j2 ())
def Ez (N : Nat) (p0 : List Int) (p1 : List Int) : Option Bool :=
 AE (((p0.length : Int) != (p1.length : Int)))
  (some false)
  (CA N p0 p1 (fun (_ : Unit) =>
   some true) N 0)
def B4 (N : Nat) (p0 : List Int) (p1 : Int → Option Bool) (j1 : Unit → Option Int) : Nat → Int → Option Int
 | 0, _ => none
 | n1 + 1, v1 =>
  AE ((decide (v1 < (p0.length : Int))))
   ((B9 p0 v1).bind fun v4 =>
   (p1 v4).bind fun v5 =>
   AE v5
    (some v1)
    (B4 N p0 p1 j1 n1 (wI .i64 (v1 + 1))))
   (j1 ())
def Dl (N : Nat) (p0 : List Int) (p1 : Int → Option Bool) : Option Int :=
 B4 N p0 p1 (fun (_ : Unit) =>
  some ((-1))) N 0
def B5 (N : Nat) (p0 : List Int) (p1 : Int → Option Bool) : Option Bool :=
 (Dl N p0 p1).bind fun v1 =>
 some ((decide (0 ≤ v1)))
def Ha (_ : Nat) (p0 : Int) : Option Bool :=
 some ((decide (0 ≤ p0)))
def H1 (N : Nat) (p0 : Ad) (p1 : Ai) : Option Bool :=
 Bp (fun (v1 : Bool) =>
  some v1)
 fun j1 =>
 (EH N p0 p1).bind fun v2 =>
 AE ((v2 == 0))
  ((Ez N p1.ff p0.fq).bind fun v4 =>
  AE v4
   ((B5 N p1.fd ((fun (x : Int) => Ha N x))).bind fun v6 =>
   j1 (!v6))
   (j1 false))
  (j1 false)
def E7 (N : Nat) (p0 : AN) (p1 : List Int) (p2 : List Int) (p3 : List Int) (p4 : List A9) : Option Bool :=
 (H1 N ((Ad.mk p1 p2 p3 p4)) ((Ai.mk p0.fD.ff p0.fD.fd p0.fD.fg))).bind fun v1 =>
 some v1
def Bo (N : Nat) (p0 : List AN) (p1 : AN → Option Bool) (j1 : Unit → Option Int) : Nat → Int → Option Int
 | 0, _ => none
 | n1 + 1, v1 =>
  AE ((decide (v1 < (p0.length : Int))))
   ((B9 p0 v1).bind fun v4 =>
   (p1 ((AN.mk ((Ai.mk v4.fD.ff v4.fD.fd v4.fD.fg)) v4.fF ((Al.mk v4.fG.fw v4.fG.fy v4.fG.fA)) v4.fd))).bind fun v5 =>
   AE v5
    (some v1)
    (Bo N p0 p1 j1 n1 (wI .i64 (v1 + 1))))
   (j1 ())
def BX (N : Nat) (p0 : List AN) (p1 : AN → Option Bool) : Option Int :=
 Bo N p0 p1 (fun (_ : Unit) =>
  some ((-1))) N 0
def Bw (N : Nat) (j1 : ((List Al)) → Option ((List Al))) : Nat → ((List Al) × Int × Int) → Option ((List Al))
 | 0, _ => none
 | n1 + 1, v1 =>
  AE ((decide (v1.2.1 < v1.2.2)))
   ((B9 v1.1 v1.2.2).bind fun v4 =>
   (B9 v1.1 v1.2.1).bind fun v5 =>
   (B9 v1.1 v1.2.1).bind fun _ =>
   (B9 (v1.1.set ((v1.2.1).toNat) v4) v1.2.2).bind fun _ =>
   Bw N j1 n1 ((v1.1.set ((v1.2.1).toNat) v4).set ((v1.2.2).toNat) v5, (wI .i64 (v1.2.1 + 1)), (wI .i64 (v1.2.2 - 1))))
   (j1 v1.1)
def Ce (N : Nat) (p0 : List Al) : Option ((List Al)) :=
 Bw N (fun (v2 : (List Al)) =>
  some v2) N (p0, 0, (wI .i64 ((p0.length : Int) - 1)))
def Gv (N : Nat) (p0 : List AN) (j1 : ((List Al)) → Option ((List Al))) : Nat → (Int × (List Al)) → Option ((List Al))
 | 0, _ => none
 | n1 + 1, v1 =>
  (B9 p0 v1.1).bind fun v3 =>
  AE ((decide (0 ≤ v3.fF)))
   ((B9 p0 v1.1).bind fun v5 =>
   (E6 (v1.2.length + (([(Al.mk v5.fG.fw v5.fG.fy v5.fG.fA)] : List Al)).length ≤ Hj)).bind fun _ =>
   (B9 p0 v1.1).bind fun v7 =>
   Gv N p0 j1 n1 (v7.fF, v1.2 ++ (([(Al.mk v5.fG.fw v5.fG.fy v5.fG.fA)] : List Al))))
   (j1 v1.2)
def JA (N : Nat) (p0 : List AN) (p1 : Int) : Option ((List Al)) :=
 Gv N p0 (fun (v2 : (List Al)) =>
  (Ce N v2).bind fun v8 =>
  some v8) N (p1, ([] : List Al))
def I4 (N : Nat) (p0 : Ad) (p1 : Ai) : Option ((List Al) × Int) :=
 (G8 N p0 p1).bind fun v1 =>
 AE ((v1.2 != 0))
  (some (([] : List Al), v1.2))
  (AE ((!v1.1))
   (some (([] : List Al), 13))
   ((HW N p0 p1).bind fun v4 =>
   AE ((v4.2 != 0))
    (some (([] : List Al), v4.2))
    ((BX N v4.1 ((fun (x : AN) => E7 N x p0.fi p0.fm p0.fq p0.fh))).bind fun v6 =>
    AE ((decide (v6 < 0)))
     (some (([] : List Al), 14))
     ((JA N v4.1 v6).bind fun v8 =>
     some (v8, 0)))))
def IR (N : Nat) (p0 : Ad) : Option ((List Al) × Int) :=
 (Fm N p0).bind fun v1 =>
 AE ((v1.2 != 0))
  (some (([] : List Al), v1.2))
  ((I4 N p0 v1.1).bind fun v3 =>
  some (v3.1, v3.2))
def Dc (_ : Nat) (p0 : Int) : Option Bool :=
 Bp (fun (v1 : Bool) =>
  some v1)
 fun j1 =>
 AE ((decide (p0 < 1)))
  (j1 true)
  (j1 (decide (4 < p0)))
def CT (N : Nat) (p0 : Ad) (p1 : List Int) : Option Int :=
 (Cd N p0).bind fun v1 =>
 AE ((v1 != 0))
  (some v1)
  (AE (((p1.length : Int) != (p0.fi.length : Int)))
   (some 6)
   ((B5 N p1 ((fun (x : Int) => Dc N x))).bind fun v4 =>
   AE v4
    (some 7)
    (some 0)))
def EG (N : Nat) (p0 : Ad) (p1 : List Al) (j5 : Ai → Option (Int × Ai × AD × Int)) : Nat → (Ai × Int) → Option (Int × Ai × AD × Int)
 | 0, _ => none
 | n5 + 1, v5 =>
  AE ((decide (v5.2 < (p1.length : Int))))
   ((B9 p1 v5.2).bind fun v8 =>
   (Ee N p0 v5.1 v8).bind fun v9 =>
   Bp (fun (v10 : Bool) =>
    AE v10
     (some (v5.2, (Ai.mk (([] : List Int)) (([] : List Int)) (([] : List Int))), (AD.mk 0 0 0), 0))
     ((GC N p0 v9.1).bind fun v13 =>
     AE ((v13.2.2 == 0))
      (some (v5.2, v13.1, v13.2.1, 0))
      (EG N p0 p1 j5 n5 (v9.1, (wI .i64 (v5.2 + 1))))))
   fun j10 =>
   AE ((v9.2 != 0))
    (j10 true)
    (j10 (v8.fw == 4)))
   (j5 v5.1)
def Hl (N : Nat) (p0 : Ad) (p1 : List Al) : Option (Int × Ai × AD × Int) :=
 (Fm N p0).bind fun v1 =>
 AE ((v1.2 != 0))
  (some (0, (Ai.mk (([] : List Int)) (([] : List Int)) (([] : List Int))), (AD.mk 0 0 0), v1.2))
  ((GC N p0 v1.1).bind fun v3 =>
  AE ((v3.2.2 == 0))
   (some ((-1), v3.1, v3.2.1, 0))
   (EG N p0 p1 (fun (v6 : Ai) =>
    (H1 N p0 v6).bind fun v15 =>
    AE ((!v15))
     (some ((p1.length : Int), (Ai.mk (([] : List Int)) (([] : List Int)) (([] : List Int))), (AD.mk 0 0 0), 14))
     (some (0, (Ai.mk (([] : List Int)) (([] : List Int)) (([] : List Int))), (AD.mk 0 0 0), 15))) N (v1.1, 0)))
def G4 (N : Nat) (p0 : Ad) (p1 : List Al) : Option Bool :=
 (Hl N p0 p1).bind fun v1 =>
 some ((v1.2.2.2 == 15))
def BQ (_ : Nat) (p0 : List Al) : Option ((List Al)) :=
 (E6 ((([] : List Al)).length + p0.length ≤ Hj)).bind fun _ =>
 some ((([] : List Al)) ++ p0)
def E0 (N : Nat) (p0 : Ad) (p1 : List Int) (p2 : List Al) : Option (Af × Int) :=
 (CT N p0 p1).bind fun v1 =>
 AE ((v1 != 0))
  (some ((Af.mk (([] : List Al)) 0 0 0 0 0 ((Ai.mk (([] : List Int)) (([] : List Int)) (([] : List Int))))), v1))
  ((G4 N p0 p2).bind fun v3 =>
  AE ((!v3))
   (some ((Af.mk (([] : List Al)) 0 0 0 0 0 ((Ai.mk (([] : List Int)) (([] : List Int)) (([] : List Int))))), 13))
   ((Fm N p0).bind fun v5 =>
   AE ((v5.2 != 0))
    (some ((Af.mk (([] : List Al)) 0 0 0 0 0 ((Ai.mk (([] : List Int)) (([] : List Int)) (([] : List Int))))), v5.2))
    ((BQ N p2).bind fun v7 =>
    Bp (fun (v8 : Int) =>
     some ((Af.mk v7 0 v8 0 0 0 v5.1), 0))
    fun j8 =>
    AE (((p2.length : Int) == 0))
     (j8 6)
     (j8 0))))
def GF (N : Nat) (p0 : Ad) (p2 : List Al) (j4 : ((List Ai)) → Option ((List Ai) × Int × Int)) : Nat → ((List Ai) × Int) → Option ((List Ai) × Int × Int)
 | 0, _ => none
 | n4 + 1, v4 =>
  AE ((decide (v4.2 < (p2.length : Int))))
   ((B9 p2 v4.2).bind fun v7 =>
   (B9 v4.1 v4.2).bind fun v8 =>
   (G5 N p0 v8 v7).bind fun v9 =>
   AE ((v9.2 != 0))
    (some (([] : List Ai), v4.2, v9.2))
    ((E6 (v4.1.length + (([v9.1] : List Ai)).length ≤ Hj)).bind fun _ =>
    GF N p0 p2 j4 n4 (v4.1 ++ (([v9.1] : List Ai)), (wI .i64 (v4.2 + 1)))))
   (j4 v4.1)
def Ji (N : Nat) (p0 : Ad) (p1 : Ai) (p2 : List Al) : Option ((List Ai) × Int × Int) :=
 (EH N p0 p1).bind fun v1 =>
 AE ((v1 != 0))
  (some (([] : List Ai), 0, v1))
  ((Gn N p1).bind fun v3 =>
  GF N p0 p2 (fun (v5 : (List Ai)) =>
   some (v5, (p2.length : Int), 0)) N (([v3] : List Ai), 0))
def Ew (N : Nat) (p0 : Ad) (p1 : List Al) : Option (Bc × Int) :=
 (Cd N p0).bind fun v1 =>
 AE ((v1 != 0))
  (some ((Bc.mk ((Ad.mk (([] : List Int)) (([] : List Int)) (([] : List Int)) (([] : List A9)))) (([] : List Al)) (([] : List Ai))), v1))
  ((G4 N p0 p1).bind fun v3 =>
  AE ((!v3))
   (some ((Bc.mk ((Ad.mk (([] : List Int)) (([] : List Int)) (([] : List Int)) (([] : List A9)))) (([] : List Al)) (([] : List Ai))), 13))
   ((Fm N p0).bind fun v5 =>
   (Ji N p0 v5.1 p1).bind fun v6 =>
   some ((Bc.mk p0 p1 v6.1), v6.2.2)))
def Ci (N : Nat) (p0 : Bc) (p1 : Int) : Option Ai :=
 (B9 p0.fK ((wI .i64 (p1 + 1)))).bind fun v1 =>
 (B9 p0.fN p1).bind fun v2 =>
 (Ee N ((Ad.mk p0.fb.fi p0.fb.fm p0.fb.fq p0.fb.fh)) v1 ((Al.mk 4 v2.fy 0))).bind fun v3 =>
 some v3.1
def C8 (N : Nat) (p0 : Bc) (p1 : Int) (p2 : Int) : Option (Ai × Int) :=
 Bp (fun (v1 : Bool) =>
  AE v1
   (some ((Ai.mk (([] : List Int)) (([] : List Int)) (([] : List Int))), 7))
   (Bp (fun (v5 : Bool) =>
    AE v5
     ((B9 p0.fK p1).bind fun v8 =>
     some (v8, 0))
     (Bp (fun (_ : Unit) =>
      some ((Ai.mk (([] : List Int)) (([] : List Int)) (([] : List Int))), 7))
     fun j9 =>
     (B9 p0.fN p1).bind fun v10 =>
     AE ((v10.fw == 1))
      (Bp (fun (v12 : Bool) =>
       AE v12
        ((B9 p0.fK ((wI .i64 (p1 + 1)))).bind fun v16 =>
        some (v16, 0))
        (AE ((p2 == 5))
         ((Ci N ((Bc.mk ((Ad.mk p0.fb.fi p0.fb.fm p0.fb.fq p0.fb.fh)) p0.fN p0.fK)) p1).bind fun v18 =>
         some (v18, 0))
         (j9 ())))
      fun j12 =>
      AE ((p2 == 1))
       (j12 (p2 == 1))
       (AE ((p2 == 2))
        (j12 (p2 == 2))
        (j12 (p2 == 3))))
      (AE ((v10.fw == 2))
       (AE ((p2 == 1))
        ((B9 p0.fK p1).bind fun v21 =>
        some (v21, 0))
        (j9 ()))
       (AE ((v10.fw == 3))
        (AE ((p2 == 4))
         ((B9 p0.fK p1).bind fun v24 =>
         some (v24, 0))
         (j9 ()))
        (j9 ())))))
   fun j5 =>
   AE ((p2 == 0))
    (j5 true)
    (j5 (p2 == 6))))
 fun j1 =>
 AE ((decide (p1 < 0)))
  (j1 true)
  (AE ((decide ((p0.fN.length : Int) < p1)))
   (j1 true)
   (j1 (!((p1 == (p0.fN.length : Int)) == (p2 == 6)))))
def Dt (N : Nat) (p0 : List Int) (p1 : Int) (j2 : Int → Option Int) : Nat → (Int × Int) → Option Int
 | 0, _ => none
 | n2 + 1, v2 =>
  AE ((decide (v2.2 < ((((p0.drop 0).take ((p1).toNat - 0))).length : Int))))
   ((B9 (((p0.drop 0).take ((p1).toNat - 0))) v2.2).bind fun v5 =>
   Dt N p0 p1 j2 n2 ((wI .i64 (v2.1 + v5)), (wI .i64 (v2.2 + 1))))
   (j2 v2.1)
def Di (N : Nat) (p0 : List Int) (p1 : Int) : Option Int :=
 (E6 ((0 : Int) ≤ p1 ∧ 0 ≤ (p1).toNat ∧ (p1).toNat ≤ p0.length)).bind fun _ =>
 Dt N p0 p1 (fun (v3 : Int) =>
  some v3) N (0, 0)
def DQ (N : Nat) (p0 : List Int) (p1 : Af) : Option Bool :=
 Bp (fun (v1 : Bool) =>
  AE v1
   ((B9 p1.fo p1.fk).bind fun v5 =>
   (Di N p0 v5.fy).bind fun v6 =>
   AE ((v5.fw == 2))
    (Bp (fun (v8 : Bool) =>
     some v8)
    fun j8 =>
    AE ((decide (v6 ≤ p1.fr)))
     ((B9 p0 v5.fy).bind fun v10 =>
     j8 (decide (p1.fr < (wI .i64 (v6 + v10)))))
     (j8 false))
    (some ((p1.fr == v6))))
   (some ((p1.fr == 0))))
 fun j1 =>
 AE ((p1.fp == 1))
  (j1 (p1.fp == 1))
  (AE ((p1.fp == 2))
   (j1 (p1.fp == 2))
   (j1 (p1.fp == 3)))
def Eo (_ : Nat) (p0 : Int) : Option Int :=
 Bp (fun (v1 : Bool) =>
  AE v1
   (some 1)
   (Bp (fun (v5 : Bool) =>
    AE v5
     (some 2)
     (some 0))
   fun j5 =>
   AE ((p0 == 3))
    (j5 (p0 == 3))
    (j5 (p0 == 5))))
 fun j1 =>
 AE ((p0 == 1))
  (j1 (p0 == 1))
  (AE ((p0 == 2))
   (j1 (p0 == 2))
   (j1 (p0 == 4)))
def Fr (_ : Nat) (p0 : Int) : Option Bool :=
 some ((p0 != p0))
def FW (N : Nat) (p0 : Int) (p1 : Int) : Option Int :=
 (Fr N p0).bind fun v1 =>
 (Fr N p1).bind fun v2 =>
 AE v1
  (AE v2
   (some 0)
   (some ((-1))))
  (AE v2
   (some 1)
   (AE ((decide (p0 < p1)))
    (some ((-1)))
    (AE ((decide (p1 < p0)))
     (some 1)
     (some 0))))
def Cj (N : Nat) (p0 : List Int) (p1 : List Int) (j1 : Unit → Option Int) : Nat → Int → Option Int
 | 0, _ => none
 | n1 + 1, v1 =>
  AE ((decide (v1 < (p0.length : Int))))
   ((B9 p0 v1).bind fun v4 =>
   AE ((decide ((p1.length : Int) ≤ v1)))
    (some 1)
    ((B9 p1 v1).bind fun v6 =>
    (FW N v4 v6).bind fun v7 =>
    AE ((v7 != 0))
     (some v7)
     (Cj N p0 p1 j1 n1 (wI .i64 (v1 + 1)))))
   (j1 ())
def CO (N : Nat) (p0 : List Int) (p1 : List Int) : Option Int :=
 Cj N p0 p1 (fun (_ : Unit) =>
  AE ((decide ((p0.length : Int) < (p1.length : Int))))
   (some ((-1)))
   (some 0)) N 0
def D5 (_ : Nat) (p0 : Int) : Option Bool :=
 some ((p0 != p0))
def EJ (N : Nat) (p0 : Int) (p1 : Int) : Option Int :=
 (D5 N p0).bind fun v1 =>
 (D5 N p1).bind fun v2 =>
 AE v1
  (AE v2
   (some 0)
   (some ((-1))))
  (AE v2
   (some 1)
   (AE ((decide (p0 < p1)))
    (some ((-1)))
    (AE ((decide (p1 < p0)))
     (some 1)
     (some 0))))
def BB (N : Nat) (p0 : List Int) (p1 : List Int) (j1 : Unit → Option Int) : Nat → Int → Option Int
 | 0, _ => none
 | n1 + 1, v1 =>
  AE ((decide (v1 < (p0.length : Int))))
   ((B9 p0 v1).bind fun v4 =>
   AE ((decide ((p1.length : Int) ≤ v1)))
    (some 1)
    ((B9 p1 v1).bind fun v6 =>
    (EJ N v4 v6).bind fun v7 =>
    AE ((v7 != 0))
     (some v7)
     (BB N p0 p1 j1 n1 (wI .i64 (v1 + 1)))))
   (j1 ())
def Cw (N : Nat) (p0 : List Int) (p1 : List Int) : Option Int :=
 BB N p0 p1 (fun (_ : Unit) =>
  AE ((decide ((p0.length : Int) < (p1.length : Int))))
   (some ((-1)))
   (some 0)) N 0
def Fp (N : Nat) (p0 : List Int) (j1 : Unit → Option Int) : Nat → Int → Option Int
 | 0, _ => none
 | n1 + 1, v1 =>
  AE ((decide (v1 < (p0.length : Int))))
   ((B9 p0 v1).bind fun v4 =>
   AE ((v4 != 0))
    (some v4)
    (Fp N p0 j1 n1 (wI .i64 (v1 + 1))))
   (j1 ())
def In (N : Nat) (p0 : List Int) : Option Int :=
 Fp N p0 (fun (_ : Unit) =>
  some 0) N 0
def E8 (N : Nat) (p0 : Ai) (p1 : Ai) : Option Int :=
 (CO N p0.ff p1.ff).bind fun v1 =>
 (CO N p0.fd p1.fd).bind fun v2 =>
 (Cw N p0.fg p1.fg).bind fun v3 =>
 (In N (([v1, v2, v3] : List Int))).bind fun v4 =>
 some v4
def Fz (N : Nat) (p0 : Ad) (p1 : List Int) (p2 : Af) : Option Bool :=
 Bp (fun (v1 : Bool) =>
  AE v1
   (some false)
   ((Ew N p0 p2.fo).bind fun v5 =>
   AE ((v5.2 != 0))
    (some false)
    ((C8 N ((Bc.mk ((Ad.mk v5.1.fb.fi v5.1.fb.fm v5.1.fb.fq v5.1.fb.fh)) v5.1.fN v5.1.fK)) p2.fk p2.fp).bind fun v7 =>
    Bp (fun (v8 : Bool) =>
     AE v8
      (some false)
      ((Eo N p2.fp).bind fun v12 =>
      AE ((decide (p2.fj < (wI .i64 ((wI .i64 (2 * p2.fk)) + v12)))))
       (some false)
       ((Eo N p2.fp).bind fun v14 =>
       AE (((zI ((wI .i64 ((wI .i64 (p2.fj - (wI .i64 (2 * p2.fk)))) - v14))) 3) != 0))
        (some false)
        (Bp (fun (v16 : Bool) =>
         Bp (fun (v20 : Bool) =>
          some v20)
         fun j20 =>
         (E8 N ((Ai.mk p2.fc.ff p2.fc.fd p2.fc.fg)) v7.1).bind fun v21 =>
         AE ((v21 == 0))
          (j20 true)
          (AE v16
           ((Ci N ((Bc.mk ((Ad.mk v5.1.fb.fi v5.1.fb.fm v5.1.fb.fq v5.1.fb.fh)) v5.1.fN v5.1.fK)) p2.fk).bind fun v24 =>
           (E8 N ((Ai.mk p2.fc.ff p2.fc.fd p2.fc.fg)) v24).bind fun v25 =>
           j20 (v25 == 0))
           (j20 false)))
        fun j16 =>
        AE ((p2.fp == 0))
         (AE ((decide (0 < (wI .i64 ((wI .i64 (p2.fj - (wI .i64 (2 * p2.fk)))) - v14)))))
          ((B9 p2.fo p2.fk).bind fun v19 =>
          j16 (v19.fw == 1))
          (j16 false))
         (j16 false)))))
    fun j8 =>
    AE ((v7.2 != 0))
     (j8 true)
     ((DQ N p1 ((Af.mk p2.fo p2.fk p2.fp p2.fr p2.fj p2.fe ((Ai.mk p2.fc.ff p2.fc.fd p2.fc.fg))))).bind fun v10 =>
     j8 (!v10)))))
 fun j1 =>
 (CT N p0 p1).bind fun v2 =>
 AE ((v2 != 0))
  (j1 true)
  (j1 (decide (p2.fe < 0)))
def ET (N : Nat) (p0 : Ad) (p1 : List Int) (p2 : Af) : Option Int :=
 (CT N p0 p1).bind fun v1 =>
 AE ((v1 != 0))
  (some v1)
  ((Fz N p0 p1 ((Af.mk p2.fo p2.fk p2.fp p2.fr p2.fj p2.fe ((Ai.mk p2.fc.ff p2.fc.fd p2.fc.fg))))).bind fun v3 =>
  AE ((!v3))
   (some 1)
   (some 0))
def Fc (N : Nat) (p0 : Af) : Option Af :=
 (BQ N p0.fo).bind fun v1 =>
 (Bj N p0.fc.ff).bind fun v2 =>
 (Bj N p0.fc.fd).bind fun v3 =>
 (BA N p0.fc.fg).bind fun v4 =>
 some ((Af.mk v1 p0.fk p0.fp p0.fr p0.fj p0.fe ((Ai.mk v2 v3 v4))))
def By (_ : Nat) (p0 : Ac) (p1 : Int) : Option Ac :=
 (E6 (p0.fv.length + (([(AW.mk 1 ((AC.mk p1 p0.fa.fe p0.fa.fk (⟨#[]⟩))) ((BL.mk 0 0 0)) 0 0)] : List AW)).length ≤ Hj)).bind fun _ =>
 some ((Ac.mk ((Ad.mk p0.fb.fi p0.fb.fm p0.fb.fq p0.fb.fh)) p0.fu ((Af.mk p0.fa.fo p0.fa.fk p0.fa.fp p0.fa.fr ((wI .i64 (p0.fa.fj + 1))) p0.fa.fe ((Ai.mk p0.fa.fc.ff p0.fa.fc.fd p0.fa.fc.fg)))) (p0.fv ++ (([(AW.mk 1 ((AC.mk p1 p0.fa.fe p0.fa.fk (⟨#[]⟩))) ((BL.mk 0 0 0)) 0 0)] : List AW)))))
def A3 (_ : Nat) (p0 : Ac) : Option Al :=
 (B9 p0.fa.fo p0.fa.fk).bind fun v1 =>
 some v1
def B0 (N : Nat) (p0 : Ac) (p1 : Al) : Option Ac :=
 (Ee N ((Ad.mk p0.fb.fi p0.fb.fm p0.fb.fq p0.fb.fh)) ((Ai.mk p0.fa.fc.ff p0.fa.fc.fd p0.fa.fc.fg)) p1).bind fun v1 =>
 AE ((v1.2 == 0))
  (some ((Ac.mk ((Ad.mk p0.fb.fi p0.fb.fm p0.fb.fq p0.fb.fh)) p0.fu ((Af.mk p0.fa.fo p0.fa.fk p0.fa.fp p0.fa.fr p0.fa.fj p0.fa.fe v1.1)) p0.fv)))
  (some ((Ac.mk ((Ad.mk p0.fb.fi p0.fb.fm p0.fb.fq p0.fb.fh)) p0.fu ((Af.mk p0.fa.fo p0.fa.fk p0.fa.fp p0.fa.fr p0.fa.fj p0.fa.fe ((Ai.mk p0.fa.fc.ff p0.fa.fc.fd p0.fa.fc.fg)))) p0.fv)))
def Dp (N : Nat) (p0 : Ac) : Option Ac :=
 (By N ((Ac.mk ((Ad.mk p0.fb.fi p0.fb.fm p0.fb.fq p0.fb.fh)) p0.fu ((Af.mk p0.fa.fo p0.fa.fk p0.fa.fp p0.fa.fr p0.fa.fj p0.fa.fe ((Ai.mk p0.fa.fc.ff p0.fa.fc.fd p0.fa.fc.fg)))) p0.fv)) 1).bind fun v1 =>
 (A3 N ((Ac.mk ((Ad.mk v1.fb.fi v1.fb.fm v1.fb.fq v1.fb.fh)) v1.fu ((Af.mk v1.fa.fo v1.fa.fk v1.fa.fp v1.fa.fr v1.fa.fj v1.fa.fe ((Ai.mk v1.fa.fc.ff v1.fa.fc.fd v1.fa.fc.fg)))) v1.fv))).bind fun v2 =>
 Bp (fun (v3 : (List Int) × (List Int) × (List Int) × (List A9) × (List Int) × (List Al) × Int × Int × Int × Int × Int × (List Int) × (List Int) × (List Int)) =>
  (Di N v3.2.2.2.2.1 v2.fy).bind fun v7 =>
  some ((Ac.mk ((Ad.mk v3.1 v3.2.1 v3.2.2.1 v3.2.2.2.1)) v3.2.2.2.2.1 ((Af.mk v3.2.2.2.2.2.1 v3.2.2.2.2.2.2.1 1 v7 v3.2.2.2.2.2.2.2.2.2.1 v3.2.2.2.2.2.2.2.2.2.2.1 ((Ai.mk v3.2.2.2.2.2.2.2.2.2.2.2.1 v3.2.2.2.2.2.2.2.2.2.2.2.2.1 v3.2.2.2.2.2.2.2.2.2.2.2.2.2)))) v1.fv)))
 fun j3 =>
 AE ((v2.fw == 3))
  (some ((Ac.mk ((Ad.mk v1.fb.fi v1.fb.fm v1.fb.fq v1.fb.fh)) v1.fu ((Af.mk v1.fa.fo v1.fa.fk 4 v1.fa.fr v1.fa.fj v1.fa.fe ((Ai.mk v1.fa.fc.ff v1.fa.fc.fd v1.fa.fc.fg)))) v1.fv)))
  (AE ((v2.fw == 1))
   ((B0 N ((Ac.mk ((Ad.mk v1.fb.fi v1.fb.fm v1.fb.fq v1.fb.fh)) v1.fu ((Af.mk v1.fa.fo v1.fa.fk v1.fa.fp v1.fa.fr v1.fa.fj v1.fa.fe ((Ai.mk v1.fa.fc.ff v1.fa.fc.fd v1.fa.fc.fg)))) v1.fv)) v2).bind fun v6 =>
   j3 (v6.fb.fi, v6.fb.fm, v6.fb.fq, v6.fb.fh, v6.fu, v6.fa.fo, v6.fa.fk, v6.fa.fp, v6.fa.fr, v6.fa.fj, v6.fa.fe, v6.fa.fc.ff, v6.fa.fc.fd, v6.fa.fc.fg))
   (j3 (v1.fb.fi, v1.fb.fm, v1.fb.fq, v1.fb.fh, v1.fu, v1.fa.fo, v1.fa.fk, v1.fa.fp, v1.fa.fr, v1.fa.fj, v1.fa.fe, v1.fa.fc.ff, v1.fa.fc.fd, v1.fa.fc.fg)))
def De (N : Nat) (p0 : Ac) : Option Int :=
 (A3 N ((Ac.mk ((Ad.mk p0.fb.fi p0.fb.fm p0.fb.fq p0.fb.fh)) p0.fu ((Af.mk p0.fa.fo p0.fa.fk p0.fa.fp p0.fa.fr p0.fa.fj p0.fa.fe ((Ai.mk p0.fa.fc.ff p0.fa.fc.fd p0.fa.fc.fg)))) p0.fv))).bind fun v1 =>
 AE ((p0.fa.fp == 3))
  ((B9 p0.fa.fc.ff v1.fy).bind fun v3 =>
  some v3)
  ((B9 p0.fa.fc.fd v1.fy).bind fun v4 =>
  some v4)
def BJ (N : Nat) (p0 : Ac) : Option BL :=
 (De N ((Ac.mk ((Ad.mk p0.fb.fi p0.fb.fm p0.fb.fq p0.fb.fh)) p0.fu ((Af.mk p0.fa.fo p0.fa.fk p0.fa.fp p0.fa.fr p0.fa.fj p0.fa.fe ((Ai.mk p0.fa.fc.ff p0.fa.fc.fd p0.fa.fc.fg)))) p0.fv))).bind fun v1 =>
 some ((BL.mk p0.fa.fj p0.fa.fr v1))
def BO (N : Nat) (p0 : Ac) : Option Ac :=
 Bp (fun (v1 : Bool) =>
  AE v1
   ((BJ N ((Ac.mk ((Ad.mk p0.fb.fi p0.fb.fm p0.fb.fq p0.fb.fh)) p0.fu ((Af.mk p0.fa.fo p0.fa.fk p0.fa.fp p0.fa.fr p0.fa.fj p0.fa.fe ((Ai.mk p0.fa.fc.ff p0.fa.fc.fd p0.fa.fc.fg)))) p0.fv))).bind fun v4 =>
   (E6 (p0.fv.length + (([(AW.mk 2 ((AC.mk 0 0 0 (⟨#[]⟩))) v4 0 0)] : List AW)).length ≤ Hj)).bind fun _ =>
   some ((Ac.mk ((Ad.mk p0.fb.fi p0.fb.fm p0.fb.fq p0.fb.fh)) p0.fu ((Af.mk p0.fa.fo p0.fa.fk p0.fa.fp p0.fa.fr p0.fa.fj p0.fa.fe ((Ai.mk p0.fa.fc.ff p0.fa.fc.fd p0.fa.fc.fg)))) (p0.fv ++ (([(AW.mk 2 ((AC.mk 0 0 0 (⟨#[]⟩))) v4 0 0)] : List AW))))))
   (AE ((p0.fa.fp == 2))
    ((A3 N ((Ac.mk ((Ad.mk p0.fb.fi p0.fb.fm p0.fb.fq p0.fb.fh)) p0.fu ((Af.mk p0.fa.fo p0.fa.fk p0.fa.fp p0.fa.fr p0.fa.fj p0.fa.fe ((Ai.mk p0.fa.fc.ff p0.fa.fc.fd p0.fa.fc.fg)))) p0.fv))).bind fun v7 =>
    (BJ N ((Ac.mk ((Ad.mk p0.fb.fi p0.fb.fm p0.fb.fq p0.fb.fh)) p0.fu ((Af.mk p0.fa.fo p0.fa.fk p0.fa.fp p0.fa.fr p0.fa.fj p0.fa.fe ((Ai.mk p0.fa.fc.ff p0.fa.fc.fd p0.fa.fc.fg)))) p0.fv))).bind fun v8 =>
    (E6 (p0.fv.length + (([(AW.mk 3 ((AC.mk 0 0 0 (⟨#[]⟩))) v8 v7.fy 0)] : List AW)).length ≤ Hj)).bind fun _ =>
    some ((Ac.mk ((Ad.mk p0.fb.fi p0.fb.fm p0.fb.fq p0.fb.fh)) p0.fu ((Af.mk p0.fa.fo p0.fa.fk p0.fa.fp p0.fa.fr p0.fa.fj p0.fa.fe ((Ai.mk p0.fa.fc.ff p0.fa.fc.fd p0.fa.fc.fg)))) (p0.fv ++ (([(AW.mk 3 ((AC.mk 0 0 0 (⟨#[]⟩))) v8 v7.fy 0)] : List AW))))))
    (AE ((p0.fa.fp == 4))
     ((A3 N ((Ac.mk ((Ad.mk p0.fb.fi p0.fb.fm p0.fb.fq p0.fb.fh)) p0.fu ((Af.mk p0.fa.fo p0.fa.fk p0.fa.fp p0.fa.fr p0.fa.fj p0.fa.fe ((Ai.mk p0.fa.fc.ff p0.fa.fc.fd p0.fa.fc.fg)))) p0.fv))).bind fun v11 =>
     (E6 (p0.fv.length + (([(AW.mk 4 ((AC.mk 0 0 0 (⟨#[]⟩))) ((BL.mk p0.fa.fj 0 0)) 0 v11.fy)] : List AW)).length ≤ Hj)).bind fun _ =>
     some ((Ac.mk ((Ad.mk p0.fb.fi p0.fb.fm p0.fb.fq p0.fb.fh)) p0.fu ((Af.mk p0.fa.fo p0.fa.fk p0.fa.fp p0.fa.fr p0.fa.fj p0.fa.fe ((Ai.mk p0.fa.fc.ff p0.fa.fc.fd p0.fa.fc.fg)))) (p0.fv ++ (([(AW.mk 4 ((AC.mk 0 0 0 (⟨#[]⟩))) ((BL.mk p0.fa.fj 0 0)) 0 v11.fy)] : List AW))))))
     (some ((Ac.mk ((Ad.mk p0.fb.fi p0.fb.fm p0.fb.fq p0.fb.fh)) p0.fu ((Af.mk p0.fa.fo p0.fa.fk p0.fa.fp p0.fa.fr p0.fa.fj p0.fa.fe ((Ai.mk p0.fa.fc.ff p0.fa.fc.fd p0.fa.fc.fg)))) p0.fv))))))
 fun j1 =>
 AE ((p0.fa.fp == 1))
  (j1 (p0.fa.fp == 1))
  (j1 (p0.fa.fp == 3))
def CE (N : Nat) (p0 : Ac) : Option Ac :=
 Bp (fun (v1 : (List AW) × (List Int) × (List Int) × (List Int) × (List A9) × (List Int) × (List Al) × Int × Int × Int × Int × Int × (List Int) × (List Int) × (List Int)) =>
  (BO N ((Ac.mk ((Ad.mk v1.2.1 v1.2.2.1 v1.2.2.2.1 v1.2.2.2.2.1)) v1.2.2.2.2.2.1 ((Af.mk v1.2.2.2.2.2.2.1 v1.2.2.2.2.2.2.2.1 v1.2.2.2.2.2.2.2.2.1 v1.2.2.2.2.2.2.2.2.2.1 v1.2.2.2.2.2.2.2.2.2.2.1 v1.2.2.2.2.2.2.2.2.2.2.2.1 ((Ai.mk v1.2.2.2.2.2.2.2.2.2.2.2.2.1 v1.2.2.2.2.2.2.2.2.2.2.2.2.2.1 v1.2.2.2.2.2.2.2.2.2.2.2.2.2.2)))) v1.1))).bind fun v4 =>
  some ((Ac.mk ((Ad.mk v4.fb.fi v4.fb.fm v4.fb.fq v4.fb.fh)) v4.fu ((Af.mk v4.fa.fo v4.fa.fk v4.fa.fp v4.fa.fr v4.fa.fj v4.fa.fe ((Ai.mk v4.fa.fc.ff v4.fa.fc.fd v4.fa.fc.fg)))) v4.fv)))
 fun j1 =>
 AE ((p0.fa.fp == 0))
  ((Dp N ((Ac.mk ((Ad.mk p0.fb.fi p0.fb.fm p0.fb.fq p0.fb.fh)) p0.fu ((Af.mk p0.fa.fo p0.fa.fk p0.fa.fp p0.fa.fr p0.fa.fj p0.fa.fe ((Ai.mk p0.fa.fc.ff p0.fa.fc.fd p0.fa.fc.fg)))) p0.fv))).bind fun v3 =>
  j1 (v3.fv, v3.fb.fi, v3.fb.fm, v3.fb.fq, v3.fb.fh, v3.fu, v3.fa.fo, v3.fa.fk, v3.fa.fp, v3.fa.fr, v3.fa.fj, v3.fa.fe, v3.fa.fc.ff, v3.fa.fc.fd, v3.fa.fc.fg))
  (j1 (p0.fv, p0.fb.fi, p0.fb.fm, p0.fb.fq, p0.fb.fh, p0.fu, p0.fa.fo, p0.fa.fk, p0.fa.fp, p0.fa.fr, p0.fa.fj, p0.fa.fe, p0.fa.fc.ff, p0.fa.fc.fd, p0.fa.fc.fg))
def BY (N : Nat) (p0 : Ac) : Option Ac :=
 (By N ((Ac.mk ((Ad.mk p0.fb.fi p0.fb.fm p0.fb.fq p0.fb.fh)) p0.fu ((Af.mk p0.fa.fo p0.fa.fk p0.fa.fp p0.fa.fr p0.fa.fj p0.fa.fe ((Ai.mk p0.fa.fc.ff p0.fa.fc.fd p0.fa.fc.fg)))) p0.fv)) 2).bind fun v1 =>
 Bp (fun (v2 : (List Int) × (List Int) × (List Int) × (List A9) × (List Int) × (List Al) × Int × Int × Int × Int × Int × (List Int) × (List Int) × (List Int)) =>
  AE (((wI .i64 (v2.2.2.2.2.2.2.1 + 1)) == (v2.2.2.2.2.2.1.length : Int)))
   (some ((Ac.mk ((Ad.mk v2.1 v2.2.1 v2.2.2.1 v2.2.2.2.1)) v2.2.2.2.2.1 ((Af.mk v2.2.2.2.2.2.1 ((wI .i64 (v2.2.2.2.2.2.2.1 + 1))) 6 0 v2.2.2.2.2.2.2.2.2.2.1 v2.2.2.2.2.2.2.2.2.2.2.1 ((Ai.mk v2.2.2.2.2.2.2.2.2.2.2.2.1 v2.2.2.2.2.2.2.2.2.2.2.2.2.1 v2.2.2.2.2.2.2.2.2.2.2.2.2.2)))) v1.fv)))
   (some ((Ac.mk ((Ad.mk v2.1 v2.2.1 v2.2.2.1 v2.2.2.2.1)) v2.2.2.2.2.1 ((Af.mk v2.2.2.2.2.2.1 ((wI .i64 (v2.2.2.2.2.2.2.1 + 1))) 0 0 v2.2.2.2.2.2.2.2.2.2.1 v2.2.2.2.2.2.2.2.2.2.2.1 ((Ai.mk v2.2.2.2.2.2.2.2.2.2.2.2.1 v2.2.2.2.2.2.2.2.2.2.2.2.2.1 v2.2.2.2.2.2.2.2.2.2.2.2.2.2)))) v1.fv))))
 fun j2 =>
 (A3 N ((Ac.mk ((Ad.mk v1.fb.fi v1.fb.fm v1.fb.fq v1.fb.fh)) v1.fu ((Af.mk v1.fa.fo v1.fa.fk v1.fa.fp v1.fa.fr v1.fa.fj v1.fa.fe ((Ai.mk v1.fa.fc.ff v1.fa.fc.fd v1.fa.fc.fg)))) v1.fv))).bind fun v3 =>
 AE ((v3.fw != 1))
  ((B0 N ((Ac.mk ((Ad.mk v1.fb.fi v1.fb.fm v1.fb.fq v1.fb.fh)) v1.fu ((Af.mk v1.fa.fo v1.fa.fk v1.fa.fp v1.fa.fr v1.fa.fj v1.fa.fe ((Ai.mk v1.fa.fc.ff v1.fa.fc.fd v1.fa.fc.fg)))) v1.fv)) v3).bind fun v5 =>
  j2 (v5.fb.fi, v5.fb.fm, v5.fb.fq, v5.fb.fh, v5.fu, v5.fa.fo, v5.fa.fk, v5.fa.fp, v5.fa.fr, v5.fa.fj, v5.fa.fe, v5.fa.fc.ff, v5.fa.fc.fd, v5.fa.fc.fg))
  (j2 (v1.fb.fi, v1.fb.fm, v1.fb.fq, v1.fb.fh, v1.fu, v1.fa.fo, v1.fa.fk, v1.fa.fp, v1.fa.fr, v1.fa.fj, v1.fa.fe, v1.fa.fc.ff, v1.fa.fc.fd, v1.fa.fc.fg))
def DT (N : Nat) (p0 : Ac) (p1 : Cr) : Option Ac :=
 Bp (fun (v1 : Bool) =>
  AE v1
   (some ((Ac.mk ((Ad.mk p0.fb.fi p0.fb.fm p0.fb.fq p0.fb.fh)) p0.fu ((Af.mk p0.fa.fo p0.fa.fk p0.fa.fp p0.fa.fr p0.fa.fj p0.fa.fe ((Ai.mk p0.fa.fc.ff p0.fa.fc.fd p0.fa.fc.fg)))) p0.fv)))
   ((BJ N ((Ac.mk ((Ad.mk p0.fb.fi p0.fb.fm p0.fb.fq p0.fb.fh)) p0.fu ((Af.mk p0.fa.fo p0.fa.fk p0.fa.fp p0.fa.fr p0.fa.fj p0.fa.fe ((Ai.mk p0.fa.fc.ff p0.fa.fc.fd p0.fa.fc.fg)))) p0.fv))).bind fun v4 =>
   AE ((!((v4.fj == p1.fj) && ((v4.fr == p1.fr) && ((v4.fA == p1.fA) && true)))))
    (some ((Ac.mk ((Ad.mk p0.fb.fi p0.fb.fm p0.fb.fq p0.fb.fh)) p0.fu ((Af.mk p0.fa.fo p0.fa.fk p0.fa.fp p0.fa.fr p0.fa.fj p0.fa.fe ((Ai.mk p0.fa.fc.ff p0.fa.fc.fd p0.fa.fc.fg)))) p0.fv)))
    ((A3 N ((Ac.mk ((Ad.mk p0.fb.fi p0.fb.fm p0.fb.fq p0.fb.fh)) p0.fu ((Af.mk p0.fa.fo p0.fa.fk p0.fa.fp p0.fa.fr p0.fa.fj p0.fa.fe ((Ai.mk p0.fa.fc.ff p0.fa.fc.fd p0.fa.fc.fg)))) p0.fv))).bind fun v6 =>
    Bp (fun (v7 : Int × Int) =>
     (BO N ((Ac.mk ((Ad.mk p0.fb.fi p0.fb.fm p0.fb.fq p0.fb.fh)) p0.fu ((Af.mk p0.fa.fo p0.fa.fk v7.1 v7.2 p0.fa.fj p0.fa.fe ((Ai.mk p0.fa.fc.ff p0.fa.fc.fd p0.fa.fc.fg)))) p0.fv))).bind fun v15 =>
     some ((Ac.mk ((Ad.mk v15.fb.fi v15.fb.fm v15.fb.fq v15.fb.fh)) v15.fu ((Af.mk v15.fa.fo v15.fa.fk v15.fa.fp v15.fa.fr v15.fa.fj v15.fa.fe ((Ai.mk v15.fa.fc.ff v15.fa.fc.fd v15.fa.fc.fg)))) v15.fv)))
    fun j7 =>
    AE ((p0.fa.fp == 3))
     ((B0 N ((Ac.mk ((Ad.mk p0.fb.fi p0.fb.fm p0.fb.fq p0.fb.fh)) p0.fu ((Af.mk p0.fa.fo p0.fa.fk p0.fa.fp p0.fa.fr p0.fa.fj p0.fa.fe ((Ai.mk p0.fa.fc.ff p0.fa.fc.fd p0.fa.fc.fg)))) p0.fv)) ((Al.mk 4 v6.fy 0))).bind fun v9 =>
     some ((Ac.mk ((Ad.mk v9.fb.fi v9.fb.fm v9.fb.fq v9.fb.fh)) v9.fu ((Af.mk v9.fa.fo v9.fa.fk 5 0 v9.fa.fj v9.fa.fe ((Ai.mk v9.fa.fc.ff v9.fa.fc.fd v9.fa.fc.fg)))) p0.fv)))
     (AE ((v6.fw == 1))
      (j7 (2, p0.fa.fr))
      ((Di N p0.fu v6.fy).bind fun v11 =>
      (B9 p0.fu v6.fy).bind fun v12 =>
      AE ((decide ((wI .i64 (p0.fa.fr + 1)) < (wI .i64 (v11 + v12)))))
       (j7 (p0.fa.fp, (wI .i64 (p0.fa.fr + 1))))
       ((BY N ((Ac.mk ((Ad.mk p0.fb.fi p0.fb.fm p0.fb.fq p0.fb.fh)) p0.fu ((Af.mk p0.fa.fo p0.fa.fk p0.fa.fp p0.fa.fr p0.fa.fj p0.fa.fe ((Ai.mk p0.fa.fc.ff p0.fa.fc.fd p0.fa.fc.fg)))) p0.fv))).bind fun v14 =>
       some ((Ac.mk ((Ad.mk v14.fb.fi v14.fb.fm v14.fb.fq v14.fb.fh)) v14.fu ((Af.mk v14.fa.fo v14.fa.fk v14.fa.fp v14.fa.fr v14.fa.fj v14.fa.fe ((Ai.mk v14.fa.fc.ff v14.fa.fc.fd v14.fa.fc.fg)))) v14.fv))))))))
 fun j1 =>
 AE ((p0.fa.fp != 1))
  (j1 (p0.fa.fp != 3))
  (j1 false)
def DB (N : Nat) (p0 : Ac) (p1 : Cr) : Option Ac :=
 Bp (fun (v1 : Bool) =>
  AE v1
   (some ((Ac.mk ((Ad.mk p0.fb.fi p0.fb.fm p0.fb.fq p0.fb.fh)) p0.fu ((Af.mk p0.fa.fo p0.fa.fk p0.fa.fp p0.fa.fr p0.fa.fj p0.fa.fe ((Ai.mk p0.fa.fc.ff p0.fa.fc.fd p0.fa.fc.fg)))) p0.fv)))
   (AE p1.fW
    ((BY N ((Ac.mk ((Ad.mk p0.fb.fi p0.fb.fm p0.fb.fq p0.fb.fh)) p0.fu ((Af.mk p0.fa.fo p0.fa.fk p0.fa.fp p0.fa.fr p0.fa.fj p0.fa.fe ((Ai.mk p0.fa.fc.ff p0.fa.fc.fd p0.fa.fc.fg)))) p0.fv))).bind fun v5 =>
    some ((Ac.mk ((Ad.mk v5.fb.fi v5.fb.fm v5.fb.fq v5.fb.fh)) v5.fu ((Af.mk v5.fa.fo v5.fa.fk v5.fa.fp v5.fa.fr v5.fa.fj v5.fa.fe ((Ai.mk v5.fa.fc.ff v5.fa.fc.fd v5.fa.fc.fg)))) v5.fv)))
    ((By N ((Ac.mk ((Ad.mk p0.fb.fi p0.fb.fm p0.fb.fq p0.fb.fh)) p0.fu ((Af.mk p0.fa.fo p0.fa.fk p0.fa.fp p0.fa.fr p0.fa.fj p0.fa.fe ((Ai.mk p0.fa.fc.ff p0.fa.fc.fd p0.fa.fc.fg)))) p0.fv)) 3).bind fun v6 =>
    (BO N ((Ac.mk ((Ad.mk v6.fb.fi v6.fb.fm v6.fb.fq v6.fb.fh)) v6.fu ((Af.mk v6.fa.fo v6.fa.fk 3 v6.fa.fr v6.fa.fj v6.fa.fe ((Ai.mk v6.fa.fc.ff v6.fa.fc.fd v6.fa.fc.fg)))) v6.fv))).bind fun v7 =>
    some ((Ac.mk ((Ad.mk v7.fb.fi v7.fb.fm v7.fb.fq v7.fb.fh)) v7.fu ((Af.mk v7.fa.fo v7.fa.fk v7.fa.fp v7.fa.fr v7.fa.fj v7.fa.fe ((Ai.mk v7.fa.fc.ff v7.fa.fc.fd v7.fa.fc.fg)))) v7.fv)))))
 fun j1 =>
 AE ((p0.fa.fp != 2))
  (j1 true)
  (j1 (p1.fj != p0.fa.fj))
def Dg (N : Nat) (p0 : Ac) (p1 : Cr) : Option Ac :=
 AE ((p1.fw == 1))
  (Bp (fun (v2 : (List AW) × (List Int) × (List Int) × (List Int) × (List A9) × (List Int) × (List Al) × Int × Int × Int × Int × Int × (List Int) × (List Int) × (List Int)) =>
   some ((Ac.mk ((Ad.mk v2.2.1 v2.2.2.1 v2.2.2.2.1 v2.2.2.2.2.1)) v2.2.2.2.2.2.1 ((Af.mk v2.2.2.2.2.2.2.1 v2.2.2.2.2.2.2.2.1 v2.2.2.2.2.2.2.2.2.1 v2.2.2.2.2.2.2.2.2.2.1 v2.2.2.2.2.2.2.2.2.2.2.1 v2.2.2.2.2.2.2.2.2.2.2.2.1 ((Ai.mk v2.2.2.2.2.2.2.2.2.2.2.2.2.1 v2.2.2.2.2.2.2.2.2.2.2.2.2.2.1 v2.2.2.2.2.2.2.2.2.2.2.2.2.2.2)))) v2.1)))
  fun j2 =>
  AE ((decide (p0.fa.fe < p1.fe)))
   ((CE N ((Ac.mk ((Ad.mk p0.fb.fi p0.fb.fm p0.fb.fq p0.fb.fh)) p0.fu ((Af.mk p0.fa.fo p0.fa.fk p0.fa.fp p0.fa.fr p0.fa.fj p1.fe ((Ai.mk p0.fa.fc.ff p0.fa.fc.fd p0.fa.fc.fg)))) p0.fv))).bind fun v4 =>
   j2 (v4.fv, v4.fb.fi, v4.fb.fm, v4.fb.fq, v4.fb.fh, v4.fu, v4.fa.fo, v4.fa.fk, v4.fa.fp, v4.fa.fr, v4.fa.fj, v4.fa.fe, v4.fa.fc.ff, v4.fa.fc.fd, v4.fa.fc.fg))
   (j2 (p0.fv, p0.fb.fi, p0.fb.fm, p0.fb.fq, p0.fb.fh, p0.fu, p0.fa.fo, p0.fa.fk, p0.fa.fp, p0.fa.fr, p0.fa.fj, p0.fa.fe, p0.fa.fc.ff, p0.fa.fc.fd, p0.fa.fc.fg)))
  (AE ((p0.fa.fe == 0))
   (some ((Ac.mk ((Ad.mk p0.fb.fi p0.fb.fm p0.fb.fq p0.fb.fh)) p0.fu ((Af.mk p0.fa.fo p0.fa.fk p0.fa.fp p0.fa.fr p0.fa.fj p0.fa.fe ((Ai.mk p0.fa.fc.ff p0.fa.fc.fd p0.fa.fc.fg)))) p0.fv)))
   (AE ((p1.fw == 2))
    (some ((Ac.mk ((Ad.mk p0.fb.fi p0.fb.fm p0.fb.fq p0.fb.fh)) p0.fu ((Af.mk p0.fa.fo p0.fa.fk p0.fa.fp p0.fa.fr p0.fa.fj 0 ((Ai.mk p0.fa.fc.ff p0.fa.fc.fd p0.fa.fc.fg)))) p0.fv)))
    (AE ((p1.fw == 3))
     ((CE N ((Ac.mk ((Ad.mk p0.fb.fi p0.fb.fm p0.fb.fq p0.fb.fh)) p0.fu ((Af.mk p0.fa.fo p0.fa.fk p0.fa.fp p0.fa.fr p0.fa.fj p0.fa.fe ((Ai.mk p0.fa.fc.ff p0.fa.fc.fd p0.fa.fc.fg)))) p0.fv))).bind fun v8 =>
     some ((Ac.mk ((Ad.mk v8.fb.fi v8.fb.fm v8.fb.fq v8.fb.fh)) v8.fu ((Af.mk v8.fa.fo v8.fa.fk v8.fa.fp v8.fa.fr v8.fa.fj v8.fa.fe ((Ai.mk v8.fa.fc.ff v8.fa.fc.fd v8.fa.fc.fg)))) v8.fv)))
     (AE ((p1.fw == 4))
      ((DT N ((Ac.mk ((Ad.mk p0.fb.fi p0.fb.fm p0.fb.fq p0.fb.fh)) p0.fu ((Af.mk p0.fa.fo p0.fa.fk p0.fa.fp p0.fa.fr p0.fa.fj p0.fa.fe ((Ai.mk p0.fa.fc.ff p0.fa.fc.fd p0.fa.fc.fg)))) p0.fv)) p1).bind fun v10 =>
      some ((Ac.mk ((Ad.mk v10.fb.fi v10.fb.fm v10.fb.fq v10.fb.fh)) v10.fu ((Af.mk v10.fa.fo v10.fa.fk v10.fa.fp v10.fa.fr v10.fa.fj v10.fa.fe ((Ai.mk v10.fa.fc.ff v10.fa.fc.fd v10.fa.fc.fg)))) v10.fv)))
      (AE ((p1.fw == 5))
       ((DB N ((Ac.mk ((Ad.mk p0.fb.fi p0.fb.fm p0.fb.fq p0.fb.fh)) p0.fu ((Af.mk p0.fa.fo p0.fa.fk p0.fa.fp p0.fa.fr p0.fa.fj p0.fa.fe ((Ai.mk p0.fa.fc.ff p0.fa.fc.fd p0.fa.fc.fg)))) p0.fv)) p1).bind fun v12 =>
       some ((Ac.mk ((Ad.mk v12.fb.fi v12.fb.fm v12.fb.fq v12.fb.fh)) v12.fu ((Af.mk v12.fa.fo v12.fa.fk v12.fa.fp v12.fa.fr v12.fa.fj v12.fa.fe ((Ai.mk v12.fa.fc.ff v12.fa.fc.fd v12.fa.fc.fg)))) v12.fv)))
       (AE ((p1.fw == 6))
        (Bp (fun (v14 : Bool) =>
         AE v14
          ((BY N ((Ac.mk ((Ad.mk p0.fb.fi p0.fb.fm p0.fb.fq p0.fb.fh)) p0.fu ((Af.mk p0.fa.fo p0.fa.fk p0.fa.fp p0.fa.fr p0.fa.fj p0.fa.fe ((Ai.mk p0.fa.fc.ff p0.fa.fc.fd p0.fa.fc.fg)))) p0.fv))).bind fun v19 =>
          some ((Ac.mk ((Ad.mk v19.fb.fi v19.fb.fm v19.fb.fq v19.fb.fh)) v19.fu ((Af.mk v19.fa.fo v19.fa.fk v19.fa.fp v19.fa.fr v19.fa.fj v19.fa.fe ((Ai.mk v19.fa.fc.ff v19.fa.fc.fd v19.fa.fc.fg)))) v19.fv)))
          (some ((Ac.mk ((Ad.mk p0.fb.fi p0.fb.fm p0.fb.fq p0.fb.fh)) p0.fu ((Af.mk p0.fa.fo p0.fa.fk p0.fa.fp p0.fa.fr p0.fa.fj p0.fa.fe ((Ai.mk p0.fa.fc.ff p0.fa.fc.fd p0.fa.fc.fg)))) p0.fv))))
        fun j14 =>
        AE ((p0.fa.fp == 4))
         (AE ((p1.fj == p0.fa.fj))
          ((A3 N ((Ac.mk ((Ad.mk p0.fb.fi p0.fb.fm p0.fb.fq p0.fb.fh)) p0.fu ((Af.mk p0.fa.fo p0.fa.fk p0.fa.fp p0.fa.fr p0.fa.fj p0.fa.fe ((Ai.mk p0.fa.fc.ff p0.fa.fc.fd p0.fa.fc.fg)))) p0.fv))).bind fun v17 =>
          j14 (p1.fT == v17.fy))
          (j14 false))
         (j14 false))
        (AE ((p1.fw == 7))
         (AE ((p0.fa.fp == 5))
          ((By N ((Ac.mk ((Ad.mk p0.fb.fi p0.fb.fm p0.fb.fq p0.fb.fh)) p0.fu ((Af.mk p0.fa.fo p0.fa.fk p0.fa.fp p0.fa.fr p0.fa.fj p0.fa.fe ((Ai.mk p0.fa.fc.ff p0.fa.fc.fd p0.fa.fc.fg)))) p0.fv)) 4).bind fun v22 =>
          some ((Ac.mk ((Ad.mk v22.fb.fi v22.fb.fm v22.fb.fq v22.fb.fh)) v22.fu ((Af.mk v22.fa.fo v22.fa.fk 0 v22.fa.fr v22.fa.fj v22.fa.fe ((Ai.mk v22.fa.fc.ff v22.fa.fc.fd v22.fa.fc.fg)))) v22.fv)))
          (some ((Ac.mk ((Ad.mk p0.fb.fi p0.fb.fm p0.fb.fq p0.fb.fh)) p0.fu ((Af.mk p0.fa.fo p0.fa.fk p0.fa.fp p0.fa.fr p0.fa.fj p0.fa.fe ((Ai.mk p0.fa.fc.ff p0.fa.fc.fd p0.fa.fc.fg)))) p0.fv))))
         (some ((Ac.mk ((Ad.mk p0.fb.fi p0.fb.fm p0.fb.fq p0.fb.fh)) p0.fu ((Af.mk p0.fa.fo p0.fa.fk p0.fa.fp p0.fa.fr p0.fa.fj p0.fa.fe ((Ai.mk p0.fa.fc.ff p0.fa.fc.fd p0.fa.fc.fg)))) p0.fv))))))))))
def Ec (N : Nat) (p3 : List Cr) (j4 : ((List Int) × (List Int) × (List Int) × (List A9) × (List Int) × (List Al) × Int × Int × Int × Int × Int × (List Int) × (List Int) × (List Int) × (List AW)) → Option (Af × (List AW) × Int)) : Nat → ((List Int) × (List Int) × (List Int) × (List A9) × (List Int) × (List Al) × Int × Int × Int × Int × Int × (List Int) × (List Int) × (List Int) × (List AW) × Int) → Option (Af × (List AW) × Int)
 | 0, _ => none
 | n4 + 1, v4 =>
  AE ((decide (v4.2.2.2.2.2.2.2.2.2.2.2.2.2.2.2 < (p3.length : Int))))
   ((B9 p3 v4.2.2.2.2.2.2.2.2.2.2.2.2.2.2.2).bind fun v7 =>
   (Dg N ((Ac.mk ((Ad.mk v4.1 v4.2.1 v4.2.2.1 v4.2.2.2.1)) v4.2.2.2.2.1 ((Af.mk v4.2.2.2.2.2.1 v4.2.2.2.2.2.2.1 v4.2.2.2.2.2.2.2.1 v4.2.2.2.2.2.2.2.2.1 v4.2.2.2.2.2.2.2.2.2.1 v4.2.2.2.2.2.2.2.2.2.2.1 ((Ai.mk v4.2.2.2.2.2.2.2.2.2.2.2.1 v4.2.2.2.2.2.2.2.2.2.2.2.2.1 v4.2.2.2.2.2.2.2.2.2.2.2.2.2.1)))) v4.2.2.2.2.2.2.2.2.2.2.2.2.2.2.1)) v7).bind fun v8 =>
   Ec N p3 j4 n4 (v8.fb.fi, v8.fb.fm, v8.fb.fq, v8.fb.fh, v8.fu, v8.fa.fo, v8.fa.fk, v8.fa.fp, v8.fa.fr, v8.fa.fj, v8.fa.fe, v8.fa.fc.ff, v8.fa.fc.fd, v8.fa.fc.fg, v8.fv, (wI .i64 (v4.2.2.2.2.2.2.2.2.2.2.2.2.2.2.2 + 1))))
   (j4 (v4.1, v4.2.1, v4.2.2.1, v4.2.2.2.1, v4.2.2.2.2.1, v4.2.2.2.2.2.1, v4.2.2.2.2.2.2.1, v4.2.2.2.2.2.2.2.1, v4.2.2.2.2.2.2.2.2.1, v4.2.2.2.2.2.2.2.2.2.1, v4.2.2.2.2.2.2.2.2.2.2.1, v4.2.2.2.2.2.2.2.2.2.2.2.1, v4.2.2.2.2.2.2.2.2.2.2.2.2.1, v4.2.2.2.2.2.2.2.2.2.2.2.2.2.1, v4.2.2.2.2.2.2.2.2.2.2.2.2.2.2.1))
def Gp (N : Nat) (p0 : Ad) (p1 : List Int) (p2 : Af) (p3 : List Cr) : Option (Af × (List AW) × Int) :=
 (ET N p0 p1 ((Af.mk p2.fo p2.fk p2.fp p2.fr p2.fj p2.fe ((Ai.mk p2.fc.ff p2.fc.fd p2.fc.fg))))).bind fun v1 =>
 AE ((v1 != 0))
  (some ((Af.mk (([] : List Al)) 0 0 0 0 0 ((Ai.mk (([] : List Int)) (([] : List Int)) (([] : List Int))))), ([] : List AW), v1))
  ((Fc N ((Af.mk p2.fo p2.fk p2.fp p2.fr p2.fj p2.fe ((Ai.mk p2.fc.ff p2.fc.fd p2.fc.fg))))).bind fun v3 =>
  Ec N p3 (fun (v5 : (List Int) × (List Int) × (List Int) × (List A9) × (List Int) × (List Al) × Int × Int × Int × Int × Int × (List Int) × (List Int) × (List Int) × (List AW)) =>
   some ((Af.mk v5.2.2.2.2.2.1 v5.2.2.2.2.2.2.1 v5.2.2.2.2.2.2.2.1 v5.2.2.2.2.2.2.2.2.1 v5.2.2.2.2.2.2.2.2.2.1 v5.2.2.2.2.2.2.2.2.2.2.1 ((Ai.mk v5.2.2.2.2.2.2.2.2.2.2.2.1 v5.2.2.2.2.2.2.2.2.2.2.2.2.1 v5.2.2.2.2.2.2.2.2.2.2.2.2.2.1))), v5.2.2.2.2.2.2.2.2.2.2.2.2.2.2, 0)) N (p0.fi, p0.fm, p0.fq, p0.fh, p1, v3.fo, v3.fk, v3.fp, v3.fr, v3.fj, v3.fe, v3.fc.ff, v3.fc.fd, v3.fc.fg, ([] : List AW), 0))
def F4 (N : Nat) (p0 : Ad) (p1 : List Int) (p2 : Af) (p3 : Cr) : Option (Af × (List AW) × Int) :=
 (Gp N p0 p1 ((Af.mk p2.fo p2.fk p2.fp p2.fr p2.fj p2.fe ((Ai.mk p2.fc.ff p2.fc.fd p2.fc.fg)))) (([p3] : List Cr))).bind fun v1 =>
 some ((Af.mk v1.1.fo v1.1.fk v1.1.fp v1.1.fr v1.1.fj v1.1.fe ((Ai.mk v1.1.fc.ff v1.1.fc.fd v1.1.fc.fg))), v1.2.1, v1.2.2)
def CW (_ : Nat) (p0 : AC) : Option Bool :=
 Bp (fun (v1 : Bool) =>
  some v1)
 fun j1 =>
 AE ((decide (0 ≤ p0.fw)))
  (AE ((decide (0 ≤ p0.fe)))
   (j1 (decide (0 ≤ p0.fy)))
   (j1 false))
  (j1 false)
def Dy (N : Nat) (p0 : ByteArray) (j1 : Unit → Option (Int × Int × Int)) : Nat → (Int × Int) → Option (Int × Int × Int)
 | 0, _ => none
 | n1 + 1, v1 =>
  AE ((decide (v1.2 < (Ox 10 ((p0.size : Int))))))
   ((HH p0 v1.2).bind fun v4 =>
   Bp (fun (v5 : Bool) =>
    AE v5
     (some (0, 0, 7))
     (AE ((decide (128 ≤ v4)))
      ((E6 (0 ≤ (wI .i64 (7 * v1.2)))).bind fun _ =>
      Dy N p0 j1 n1 ((O2 .u64 v1.1 ((GI .u64 ((wI .u64 ((Hn .u8 v4 127)))) ((wI .i64 (7 * v1.2)))))), (wI .i64 (v1.2 + 1))))
      (Bp (fun (v10 : Bool) =>
       AE v10
        (some (0, 0, 2))
        ((E6 (0 ≤ (wI .i64 (7 * v1.2)))).bind fun _ =>
        some ((O2 .u64 v1.1 ((GI .u64 ((wI .u64 v4)) ((wI .i64 (7 * v1.2)))))), (wI .i64 (v1.2 + 1)), 0)))
      fun j10 =>
      AE ((v4 == 0))
       (j10 (decide (0 < v1.2)))
       (j10 false))))
   fun j5 =>
   AE ((v1.2 == 9))
    (j5 (decide (1 < v4)))
    (j5 false))
   (j1 ())
def FC (N : Nat) (p0 : ByteArray) : Option (Int × Int × Int) :=
 Dy N p0 (fun (_ : Unit) =>
  some (0, 0, 10)) N (0, 0)
def En (N : Nat) (j5 : Int → Option Int) : Nat → (Int × Int) → Option Int
 | 0, _ => none
 | n5 + 1, v5 =>
  AE ((decide (v5.2 < 8)))
   (Bp (fun (v8 : Int) =>
    En N j5 n5 (v8, (wI .i64 (v5.2 + 1))))
   fun j8 =>
   AE (((Hn .u32 v5.1 1) == 1))
    (j8 (NR .u32 ((Eh .u32 v5.1 1)) 3988292384))
    (j8 (Eh .u32 v5.1 1)))
   (j5 v5.1)
def El (N : Nat) (p1 : ByteArray) (j1 : Int → Option Int) : Nat → (Int × Int) → Option Int
 | 0, _ => none
 | n1 + 1, v1 =>
  AE ((decide (v1.2 < (p1.size : Int))))
   ((HH p1 v1.2).bind fun v4 =>
   En N (fun (v6 : Int) =>
    El N p1 j1 n1 (v6, (wI .i64 (v1.2 + 1)))) N ((NR .u32 v1.1 ((wI .u32 v4))), 0))
   (j1 v1.1)
def GN (N : Nat) (p0 : Int) (p1 : ByteArray) : Option Int :=
 El N p1 (fun (v2 : Int) =>
  some ((NR .u32 4294967295 v2))) N ((NR .u32 4294967295 p0), 0)
def FG (N : Nat) (p0 : ByteArray) : Option Int :=
 (GN N 0 p0).bind fun v1 =>
 some v1
def BV (N : Nat) (p0 : ByteArray) : Option (ByteArray × Int × Int) :=
 (FC N p0).bind fun v1 =>
 Bp (fun (v2 : Bool) =>
  AE v2
   (some ((⟨#[]⟩ : ByteArray), 0, 3))
   (AE ((v1.2.2 != 0))
    (some ((⟨#[]⟩ : ByteArray), 0, v1.2.2))
    (AE ((decide ((p0.size : Int) < (wI .i64 ((wI .i64 (v1.2.1 + 4)) + (wI .i64 v1.1))))))
     (some ((⟨#[]⟩ : ByteArray), 0, 10))
     ((E6 ((0 : Int) ≤ (wI .i64 (v1.2.1 + 4)) ∧ (0 : Int) ≤ (wI .i64 ((wI .i64 (v1.2.1 + 4)) + (wI .i64 v1.1))) ∧ ((wI .i64 (v1.2.1 + 4))).toNat ≤ ((wI .i64 ((wI .i64 (v1.2.1 + 4)) + (wI .i64 v1.1)))).toNat ∧ ((wI .i64 ((wI .i64 (v1.2.1 + 4)) + (wI .i64 v1.1)))).toNat ≤ p0.size)).bind fun _ =>
     (HH p0 v1.2.1).bind fun v9 =>
     (HH p0 ((wI .i64 (v1.2.1 + 1)))).bind fun v10 =>
     (HH p0 ((wI .i64 (v1.2.1 + 2)))).bind fun v11 =>
     (HH p0 ((wI .i64 (v1.2.1 + 3)))).bind fun v12 =>
     (FG N ((p0.extract (((wI .i64 (v1.2.1 + 4))).toNat) (((wI .i64 ((wI .i64 (v1.2.1 + 4)) + (wI .i64 v1.1)))).toNat)))).bind fun v13 =>
     AE (((O2 .u32 ((O2 .u32 ((O2 .u32 ((GI .u32 ((wI .u32 v9)) 24)) ((GI .u32 ((wI .u32 v10)) 16)))) ((GI .u32 ((wI .u32 v11)) 8)))) ((wI .u32 v12))) != v13))
      (some ((⟨#[]⟩ : ByteArray), 0, 17))
      (some ((p0.extract (((wI .i64 (v1.2.1 + 4))).toNat) (((wI .i64 ((wI .i64 (v1.2.1 + 4)) + (wI .i64 v1.1)))).toNat)), (wI .i64 ((wI .i64 (v1.2.1 + 4)) + (wI .i64 v1.1))), 0))))))
 fun j2 =>
 AE ((v1.2.2 == 7))
  (j2 (v1.2.2 == 7))
  (AE ((v1.2.2 == 0))
   (j2 (decide (65535 < v1.1)))
   (j2 false))
def Em (N : Nat) (j1 : (ByteArray × (List Int)) → Option (AC × Int)) : Nat → (ByteArray × (List Int) × Int) → Option (AC × Int)
 | 0, _ => none
 | n1 + 1, v1 =>
  AE ((decide (v1.2.2 < 3)))
   ((FC N v1.1).bind fun v4 =>
   Bp (fun (v5 : Bool) =>
    AE v5
     (some ((AC.mk 0 0 0 (⟨#[]⟩)), 2))
     ((E6 ((0 : Int) ≤ v4.2.1 ∧ (v4.2.1).toNat ≤ v1.1.size ∧ v1.1.size ≤ v1.1.size)).bind fun _ =>
     (E6 (v1.2.1.length = 3)).bind fun _ =>
     (B9 v1.2.1 v1.2.2).bind fun _ =>
     Em N j1 n1 ((v1.1.extract ((v4.2.1).toNat) v1.1.size), v1.2.1.set ((v1.2.2).toNat) ((wI .i64 v4.1)), (wI .i64 (v1.2.2 + 1)))))
   fun j5 =>
   AE ((v4.2.2 != 0))
    (j5 true)
    (j5 (decide (9223372036854775807 < v4.1))))
   (j1 (v1.1, v1.2.1))
def Et (N : Nat) (p0 : ByteArray) : Option (AC × Int) :=
 Em N (fun (v2 : ByteArray × (List Int)) =>
  (E6 (v2.2.length = 3)).bind fun _ =>
  (B9 v2.2 0).bind fun v12 =>
  (E6 (v2.2.length = 3)).bind fun _ =>
  (B9 v2.2 1).bind fun v14 =>
  (E6 (v2.2.length = 3)).bind fun _ =>
  (B9 v2.2 2).bind fun v16 =>
  some ((AC.mk v12 v14 v16 v2.1), 0)) N (p0, ([0, 0, 0] : List Int), 0)
def Cl (N : Nat) (p0 : ByteArray) (j1 : ((List AC) × Int) → Option ((List AC) × Int × Int)) : Nat → ((List AC) × Int) → Option ((List AC) × Int × Int)
 | 0, _ => none
 | n1 + 1, v1 =>
  AE ((decide (v1.2 < (p0.size : Int))))
   ((E6 ((0 : Int) ≤ v1.2 ∧ (v1.2).toNat ≤ p0.size ∧ p0.size ≤ p0.size)).bind fun _ =>
   (BV N ((p0.extract ((v1.2).toNat) p0.size))).bind fun v5 =>
   AE ((v5.2.2 != 0))
    (some (v1.1, v1.2, 17))
    ((Et N v5.1).bind fun v7 =>
    AE ((v7.2 != 0))
     (some (v1.1, v1.2, 17))
     ((E6 (v1.1.length + (([v7.1] : List AC)).length ≤ Hj)).bind fun _ =>
     Cl N p0 j1 n1 (v1.1 ++ (([v7.1] : List AC)), (wI .i64 (v1.2 + v5.2.1))))))
   (j1 (v1.1, v1.2))
def Dd (N : Nat) (p0 : ByteArray) : Option ((List AC) × Int × Int) :=
 Cl N p0 (fun (v2 : (List AC) × Int) =>
  some (v2.1, v2.2, 0)) N (([] : List AC), 0)
def CJ (N : Nat) (p0 : List AC) (j1 : Int → Option Int) : Nat → (Int × Int) → Option Int
 | 0, _ => none
 | n1 + 1, v1 =>
  AE ((decide (v1.2 < (p0.length : Int))))
   ((B9 p0 v1.2).bind fun v4 =>
   CJ N p0 j1 n1 ((Hk v1.1 v4.fe), (wI .i64 (v1.2 + 1))))
   (j1 v1.1)
def Fn (N : Nat) (p0 : List AC) : Option Int :=
 CJ N p0 (fun (v2 : Int) =>
  some v2) N (0, 0)
def Il (_ : Nat) (p0 : Int) : Option ByteArray := (E6 (0 ≤ p0 ∧ p0 < 128)).bind fun _ => some (DL [p0])
def Es (N : Nat) (p0 : List Int) (j1 : ((List Int)) → Option ByteArray) : Nat → ((List Int) × Int) → Option ByteArray
 | 0, _ => none
 | n1 + 1, v1 =>
  AE ((decide (v1.2 < (p0.length : Int))))
   ((B9 p0 v1.2).bind fun v4 =>
   (Il N v4).bind fun v5 =>
   (E6 (v1.1.length + (Pt v5).length ≤ Hj)).bind fun _ =>
   Es N p0 j1 n1 (v1.1 ++ Pt v5, (wI .i64 (v1.2 + 1))))
   (j1 v1.1)
def GT (N : Nat) (p0 : List Int) : Option ByteArray :=
 Es N p0 (fun (v2 : (List Int)) =>
  some ((DL v2))) N (([] : List Int), 0)
def D9 (N : Nat) (p0 : AC) : Option ByteArray :=
 (CW N p0).bind fun v1 =>
 AE ((!v1))
  (some ((⟨#[]⟩ : ByteArray)))
  ((GT N (([(wI .u64 p0.fw), (wI .u64 p0.fe), (wI .u64 p0.fy)] : List Int))).bind fun v3 =>
  (E6 (v3.size + p0.fS.size ≤ 9223372036854775807)).bind fun _ =>
  some ((v3 ++ p0.fS)))
def DY (N : Nat) (p0 : ByteArray) : Option (ByteArray × Int) :=
 AE ((decide (65535 < (p0.size : Int))))
  (some ((⟨#[]⟩ : ByteArray), 3))
  ((FG N p0).bind fun v2 =>
  (Il N ((wI .u64 ((p0.size : Int))))).bind fun v3 =>
  (E6 (v3.size + ((DL (([(wI .u8 ((Eh .u32 v2 24))), (wI .u8 ((Eh .u32 v2 16))), (wI .u8 ((Eh .u32 v2 8))), (wI .u8 v2)] : List Int)))).size ≤ 9223372036854775807)).bind fun _ =>
  (E6 (((v3 ++ (DL (([(wI .u8 ((Eh .u32 v2 24))), (wI .u8 ((Eh .u32 v2 16))), (wI .u8 ((Eh .u32 v2 8))), (wI .u8 v2)] : List Int))))).size + p0.size ≤ 9223372036854775807)).bind fun _ =>
  some (((v3 ++ (DL (([(wI .u8 ((Eh .u32 v2 24))), (wI .u8 ((Eh .u32 v2 16))), (wI .u8 ((Eh .u32 v2 8))), (wI .u8 v2)] : List Int)))) ++ p0), 0))
def EX (N : Nat) (p0 : ByteArray) (p1 : AC) : Option (ByteArray × Int) :=
 (CW N p1).bind fun v1 =>
 AE ((!v1))
  (some ((⟨#[]⟩ : ByteArray), 1))
  ((D9 N p1).bind fun v3 =>
  (DY N v3).bind fun v4 =>
  AE ((v4.2 != 0))
   (some ((⟨#[]⟩ : ByteArray), v4.2))
   ((E6 (p0.size + v4.1.size ≤ 9223372036854775807)).bind fun _ =>
   some ((p0 ++ v4.1), 0)))
def BE (N : Nat) (p0 : ByteArray) (p1 : AC) : Option (ByteArray × Int) :=
 (CW N p1).bind fun v1 =>
 AE ((!v1))
  (some ((⟨#[]⟩ : ByteArray), 1))
  ((Dd N p0).bind fun v3 =>
  (Fn N v3.1).bind fun v4 =>
  AE ((decide (p1.fe < v4)))
   (some ((⟨#[]⟩ : ByteArray), 16))
   ((E6 ((0 : Int) ≤ v3.2.1 ∧ 0 ≤ (v3.2.1).toNat ∧ (v3.2.1).toNat ≤ p0.size)).bind fun _ =>
   (EX N ((p0.extract 0 ((v3.2.1).toNat))) p1).bind fun v7 =>
   some (v7.1, v7.2)))
def DR (_ : Nat) (p0 : AA) : Option Al :=
 AE ((decide ((p0.fa.fo.length : Int) ≤ p0.fa.fk)))
  (some ((Al.mk 0 0 0)))
  ((B9 p0.fa.fo p0.fa.fk).bind fun v2 =>
  some v2)
def Cv (N : Nat) (p0 : List Int) (p1 : Int) (j2 : Int → Option Int) : Nat → (Int × Int) → Option Int
 | 0, _ => none
 | n2 + 1, v2 =>
  AE ((decide (v2.2 < ((((p0.drop 0).take ((p1).toNat - 0))).length : Int))))
   ((B9 (((p0.drop 0).take ((p1).toNat - 0))) v2.2).bind fun v5 =>
   Cv N p0 p1 j2 n2 ((wI .i64 (v2.1 + v5)), (wI .i64 (v2.2 + 1))))
   (j2 v2.1)
def Ej (N : Nat) (p0 : List Int) (p1 : Int) : Option Int :=
 (E6 ((0 : Int) ≤ p1 ∧ 0 ≤ (p1).toNat ∧ (p1).toNat ≤ p0.length)).bind fun _ =>
 Cv N p0 p1 (fun (v3 : Int) =>
  some v3) N (0, 0)
def D4 (N : Nat) (p0 : Ad) (p1 : Ai) (p2 : Al) : Option Ai :=
 (Ee N p0 p1 p2).bind fun v1 =>
 some v1.1
def DF (N : Nat) (p0 : AA) (p1 : Al) : Option AA :=
 AE ((p1.fw == 3))
  (some ((AA.mk ((Ad.mk p0.fb.fi p0.fb.fm p0.fb.fq p0.fb.fh)) p0.fu ((Af.mk p0.fa.fo p0.fa.fk 4 p0.fa.fr p0.fa.fj p0.fa.fe ((Ai.mk p0.fa.fc.ff p0.fa.fc.fd p0.fa.fc.fg)))))))
  ((Ej N p0.fu p1.fy).bind fun v2 =>
  AE ((p1.fw == 1))
   ((D4 N ((Ad.mk p0.fb.fi p0.fb.fm p0.fb.fq p0.fb.fh)) ((Ai.mk p0.fa.fc.ff p0.fa.fc.fd p0.fa.fc.fg)) p1).bind fun v4 =>
   some ((AA.mk ((Ad.mk p0.fb.fi p0.fb.fm p0.fb.fq p0.fb.fh)) p0.fu ((Af.mk p0.fa.fo p0.fa.fk 1 v2 p0.fa.fj p0.fa.fe v4)))))
   (some ((AA.mk ((Ad.mk p0.fb.fi p0.fb.fm p0.fb.fq p0.fb.fh)) p0.fu ((Af.mk p0.fa.fo p0.fa.fk 1 v2 p0.fa.fj p0.fa.fe ((Ai.mk p0.fa.fc.ff p0.fa.fc.fd p0.fa.fc.fg))))))))
def DU (N : Nat) (p0 : AA) (p1 : Al) : Option AA :=
 Bp (fun (v1 : (List Int) × (List Int) × (List Int)) =>
  AE (((wI .i64 (p0.fa.fk + 1)) == (p0.fa.fo.length : Int)))
   (some ((AA.mk ((Ad.mk p0.fb.fi p0.fb.fm p0.fb.fq p0.fb.fh)) p0.fu ((Af.mk p0.fa.fo ((wI .i64 (p0.fa.fk + 1))) 6 0 p0.fa.fj p0.fa.fe ((Ai.mk v1.1 v1.2.1 v1.2.2)))))))
   (some ((AA.mk ((Ad.mk p0.fb.fi p0.fb.fm p0.fb.fq p0.fb.fh)) p0.fu ((Af.mk p0.fa.fo ((wI .i64 (p0.fa.fk + 1))) 0 0 p0.fa.fj p0.fa.fe ((Ai.mk v1.1 v1.2.1 v1.2.2))))))))
 fun j1 =>
 AE ((p1.fw != 1))
  ((D4 N ((Ad.mk p0.fb.fi p0.fb.fm p0.fb.fq p0.fb.fh)) ((Ai.mk p0.fa.fc.ff p0.fa.fc.fd p0.fa.fc.fg)) p1).bind fun v3 =>
  j1 (v3.ff, v3.fd, v3.fg))
  (j1 (p0.fa.fc.ff, p0.fa.fc.fd, p0.fa.fc.fg))
def Eg (N : Nat) (p0 : AA) (p1 : AC) : Option (Bool × AA) :=
 AE ((p1.fw == 5))
  (some (true, (AA.mk ((Ad.mk p0.fb.fi p0.fb.fm p0.fb.fq p0.fb.fh)) p0.fu ((Af.mk p0.fa.fo p0.fa.fk p0.fa.fp p0.fa.fr p0.fa.fj p0.fa.fe ((Ai.mk p0.fa.fc.ff p0.fa.fc.fd p0.fa.fc.fg)))))))
  ((DR N ((AA.mk ((Ad.mk p0.fb.fi p0.fb.fm p0.fb.fq p0.fb.fh)) p0.fu ((Af.mk p0.fa.fo p0.fa.fk p0.fa.fp p0.fa.fr p0.fa.fj p0.fa.fe ((Ai.mk p0.fa.fc.ff p0.fa.fc.fd p0.fa.fc.fg))))))).bind fun v2 =>
  AE ((p1.fy != p0.fa.fk))
   (some (false, (AA.mk ((Ad.mk p0.fb.fi p0.fb.fm p0.fb.fq p0.fb.fh)) p0.fu ((Af.mk p0.fa.fo p0.fa.fk p0.fa.fp p0.fa.fr p0.fa.fj p0.fa.fe ((Ai.mk p0.fa.fc.ff p0.fa.fc.fd p0.fa.fc.fg)))))))
   (Bp (fun (v4 : (List Int) × (List Int) × (List Int) × (List A9) × (List Int) × (List Al) × Int × Int × Int × Int × Int × (List Int) × (List Int) × (List Int)) =>
    some (true, (AA.mk ((Ad.mk v4.1 v4.2.1 v4.2.2.1 v4.2.2.2.1)) v4.2.2.2.2.1 ((Af.mk v4.2.2.2.2.2.1 v4.2.2.2.2.2.2.1 v4.2.2.2.2.2.2.2.1 v4.2.2.2.2.2.2.2.2.1 v4.2.2.2.2.2.2.2.2.2.1 v4.2.2.2.2.2.2.2.2.2.2.1 ((Ai.mk v4.2.2.2.2.2.2.2.2.2.2.2.1 v4.2.2.2.2.2.2.2.2.2.2.2.2.1 v4.2.2.2.2.2.2.2.2.2.2.2.2.2)))))))
   fun j4 =>
   AE ((p1.fw == 1))
    (AE ((p0.fa.fp != 0))
     (some (false, (AA.mk ((Ad.mk p0.fb.fi p0.fb.fm p0.fb.fq p0.fb.fh)) p0.fu ((Af.mk p0.fa.fo p0.fa.fk p0.fa.fp p0.fa.fr ((wI .i64 (p0.fa.fj + 1))) p0.fa.fe ((Ai.mk p0.fa.fc.ff p0.fa.fc.fd p0.fa.fc.fg)))))))
     ((DF N ((AA.mk ((Ad.mk p0.fb.fi p0.fb.fm p0.fb.fq p0.fb.fh)) p0.fu ((Af.mk p0.fa.fo p0.fa.fk p0.fa.fp p0.fa.fr ((wI .i64 (p0.fa.fj + 1))) p0.fa.fe ((Ai.mk p0.fa.fc.ff p0.fa.fc.fd p0.fa.fc.fg)))))) v2).bind fun v7 =>
     j4 (v7.fb.fi, v7.fb.fm, v7.fb.fq, v7.fb.fh, v7.fu, v7.fa.fo, v7.fa.fk, v7.fa.fp, v7.fa.fr, v7.fa.fj, v7.fa.fe, v7.fa.fc.ff, v7.fa.fc.fd, v7.fa.fc.fg)))
    (AE ((p1.fw == 2))
     (Bp (fun (v9 : Bool) =>
      AE v9
       (some (false, (AA.mk ((Ad.mk p0.fb.fi p0.fb.fm p0.fb.fq p0.fb.fh)) p0.fu ((Af.mk p0.fa.fo p0.fa.fk p0.fa.fp p0.fa.fr ((wI .i64 (p0.fa.fj + 1))) p0.fa.fe ((Ai.mk p0.fa.fc.ff p0.fa.fc.fd p0.fa.fc.fg)))))))
       ((DU N ((AA.mk ((Ad.mk p0.fb.fi p0.fb.fm p0.fb.fq p0.fb.fh)) p0.fu ((Af.mk p0.fa.fo p0.fa.fk p0.fa.fp p0.fa.fr ((wI .i64 (p0.fa.fj + 1))) p0.fa.fe ((Ai.mk p0.fa.fc.ff p0.fa.fc.fd p0.fa.fc.fg)))))) v2).bind fun v12 =>
       j4 (v12.fb.fi, v12.fb.fm, v12.fb.fq, v12.fb.fh, v12.fu, v12.fa.fo, v12.fa.fk, v12.fa.fp, v12.fa.fr, v12.fa.fj, v12.fa.fe, v12.fa.fc.ff, v12.fa.fc.fd, v12.fa.fc.fg)))
     fun j9 =>
     AE ((p0.fa.fp != 1))
      (j9 (p0.fa.fp != 4))
      (j9 false))
     (AE ((p1.fw == 3))
      (Bp (fun (v14 : Bool) =>
       AE v14
        (some (false, (AA.mk ((Ad.mk p0.fb.fi p0.fb.fm p0.fb.fq p0.fb.fh)) p0.fu ((Af.mk p0.fa.fo p0.fa.fk p0.fa.fp p0.fa.fr ((wI .i64 (p0.fa.fj + 1))) p0.fa.fe ((Ai.mk p0.fa.fc.ff p0.fa.fc.fd p0.fa.fc.fg)))))))
        (j4 (p0.fb.fi, p0.fb.fm, p0.fb.fq, p0.fb.fh, p0.fu, p0.fa.fo, p0.fa.fk, 3, p0.fa.fr, (wI .i64 (p0.fa.fj + 1)), p0.fa.fe, p0.fa.fc.ff, p0.fa.fc.fd, p0.fa.fc.fg)))
      fun j14 =>
      AE ((p0.fa.fp != 1))
       (j14 true)
       (j14 (v2.fw != 1)))
      (AE ((p1.fw == 4))
       (AE ((p0.fa.fp != 3))
        (some (false, (AA.mk ((Ad.mk p0.fb.fi p0.fb.fm p0.fb.fq p0.fb.fh)) p0.fu ((Af.mk p0.fa.fo p0.fa.fk p0.fa.fp p0.fa.fr ((wI .i64 (p0.fa.fj + 1))) p0.fa.fe ((Ai.mk p0.fa.fc.ff p0.fa.fc.fd p0.fa.fc.fg)))))))
        ((D4 N ((Ad.mk p0.fb.fi p0.fb.fm p0.fb.fq p0.fb.fh)) ((Ai.mk p0.fa.fc.ff p0.fa.fc.fd p0.fa.fc.fg)) ((Al.mk 4 v2.fy 0))).bind fun v19 =>
        j4 (p0.fb.fi, p0.fb.fm, p0.fb.fq, p0.fb.fh, p0.fu, p0.fa.fo, p0.fa.fk, 0, 0, (wI .i64 (p0.fa.fj + 1)), p0.fa.fe, v19.ff, v19.fd, v19.fg)))
       (some (false, (AA.mk ((Ad.mk p0.fb.fi p0.fb.fm p0.fb.fq p0.fb.fh)) p0.fu ((Af.mk p0.fa.fo p0.fa.fk p0.fa.fp p0.fa.fr ((wI .i64 (p0.fa.fj + 1))) p0.fa.fe ((Ai.mk p0.fa.fc.ff p0.fa.fc.fd p0.fa.fc.fg))))))))))))
def DK (N : Nat) (p3 : List AC) (j3 : AA → Option (Af × Int)) : Nat → ((List Int) × (List Int) × (List Int) × (List A9) × (List Int) × (List Al) × Int × Int × Int × Int × Int × (List Int) × (List Int) × (List Int) × Int) → Option (Af × Int)
 | 0, _ => none
 | n3 + 1, v3 =>
  AE ((decide (v3.2.2.2.2.2.2.2.2.2.2.2.2.2.2 < (p3.length : Int))))
   ((B9 p3 v3.2.2.2.2.2.2.2.2.2.2.2.2.2.2).bind fun v6 =>
   (Eg N ((AA.mk ((Ad.mk v3.1 v3.2.1 v3.2.2.1 v3.2.2.2.1)) v3.2.2.2.2.1 ((Af.mk v3.2.2.2.2.2.1 v3.2.2.2.2.2.2.1 v3.2.2.2.2.2.2.2.1 v3.2.2.2.2.2.2.2.2.1 v3.2.2.2.2.2.2.2.2.2.1 v3.2.2.2.2.2.2.2.2.2.2.1 ((Ai.mk v3.2.2.2.2.2.2.2.2.2.2.2.1 v3.2.2.2.2.2.2.2.2.2.2.2.2.1 v3.2.2.2.2.2.2.2.2.2.2.2.2.2.1)))))) v6).bind fun v7 =>
   AE ((!v7.1))
    (some ((Af.mk (([] : List Al)) 0 0 0 0 0 ((Ai.mk (([] : List Int)) (([] : List Int)) (([] : List Int))))), 1))
    (DK N p3 j3 n3 (v7.2.fb.fi, v7.2.fb.fm, v7.2.fb.fq, v7.2.fb.fh, v7.2.fu, v7.2.fa.fo, v7.2.fa.fk, v7.2.fa.fp, v7.2.fa.fr, v7.2.fa.fj, v7.2.fa.fe, v7.2.fa.fc.ff, v7.2.fa.fc.fd, v7.2.fa.fc.fg, (wI .i64 (v3.2.2.2.2.2.2.2.2.2.2.2.2.2.2 + 1)))))
   (j3 (AA.mk ((Ad.mk v3.1 v3.2.1 v3.2.2.1 v3.2.2.2.1)) v3.2.2.2.2.1 ((Af.mk v3.2.2.2.2.2.1 v3.2.2.2.2.2.2.1 v3.2.2.2.2.2.2.2.1 v3.2.2.2.2.2.2.2.2.1 v3.2.2.2.2.2.2.2.2.2.1 v3.2.2.2.2.2.2.2.2.2.2.1 ((Ai.mk v3.2.2.2.2.2.2.2.2.2.2.2.1 v3.2.2.2.2.2.2.2.2.2.2.2.2.1 v3.2.2.2.2.2.2.2.2.2.2.2.2.2.1))))))
def zFS (N : Nat) (p0 : Ad) (p1 : List Int) (p2 : List Al) (p3 : List AC) : Option (Af × Int) :=
 (E0 N p0 p1 p2).bind fun v1 =>
 AE ((v1.2 != 0))
  (some ((Af.mk (([] : List Al)) 0 0 0 0 0 ((Ai.mk (([] : List Int)) (([] : List Int)) (([] : List Int))))), v1.2))
  (DK N p3 (fun (v4 : AA) =>
   some ((Af.mk v4.fa.fo v4.fa.fk v4.fa.fp v4.fa.fr v4.fa.fj v4.fa.fe ((Ai.mk v4.fa.fc.ff v4.fa.fc.fd v4.fa.fc.fg))), 0)) N (p0.fi, p0.fm, p0.fq, p0.fh, p1, v1.1.fo, v1.1.fk, v1.1.fp, v1.1.fr, v1.1.fj, v1.1.fe, v1.1.fc.ff, v1.1.fc.fd, v1.1.fc.fg, 0))
def GY (N : Nat) (p0 : Ad) (p1 : List Int) (p2 : List Al) (p3 : ByteArray) : Option (Af × Int × Int) :=
 (Dd N p3).bind fun v1 =>
 (zFS N p0 p1 p2 v1.1).bind fun v2 =>
 AE ((v2.2 != 0))
  (some ((Af.mk (([] : List Al)) 0 0 0 0 0 ((Ai.mk (([] : List Int)) (([] : List Int)) (([] : List Int))))), 0, v2.2))
  (some ((Af.mk v2.1.fo v2.1.fk v2.1.fp v2.1.fr v2.1.fj v2.1.fe ((Ai.mk v2.1.fc.ff v2.1.fc.fd v2.1.fc.fg))), v1.2.1, 0))
def BD (N : Nat) (p0 : List Al) (p1 : List Al) (j2 : Unit → Option Bool) : Nat → Int → Option Bool
 | 0, _ => none
 | n2 + 1, v2 =>
  AE ((decide (v2 < (p0.length : Int))))
   ((B9 p0 v2).bind fun v5 =>
   (B9 p1 v2).bind fun v6 =>
   AE ((!((v5.fw == v6.fw) && ((v5.fy == v6.fy) && ((v5.fA == v6.fA) && true)))))
    (some false)
    (BD N p0 p1 j2 n2 (wI .i64 (v2 + 1))))
   (j2 ())
def Cy (N : Nat) (p0 : List Al) (p1 : List Al) : Option Bool :=
 AE (((p0.length : Int) != (p1.length : Int)))
  (some false)
  (BD N p0 p1 (fun (_ : Unit) =>
   some true) N 0)
def GS (N : Nat) (p0 : Af) (p1 : Af) : Option Bool :=
 Bp (fun (v1 : Bool) =>
  some v1)
 fun j1 =>
 (Cy N p0.fo p1.fo).bind fun v2 =>
 AE v2
  (AE ((p0.fk == p1.fk))
   (AE ((p0.fp == p1.fp))
    (AE ((p0.fr == p1.fr))
     (AE ((p0.fj == p1.fj))
      ((E8 N ((Ai.mk p0.fc.ff p0.fc.fd p0.fc.fg)) ((Ai.mk p1.fc.ff p1.fc.fd p1.fc.fg))).bind fun v8 =>
      j1 (v8 == 0))
      (j1 false))
     (j1 false))
    (j1 false))
   (j1 false))
  (j1 false)
def C7 (N : Nat) : Option Bool :=
 (IR N ((Ad.mk (([2] : List Int)) (([0] : List Int)) (([1] : List Int)) (([] : List A9))))).bind fun v1 =>
 (E0 N ((Ad.mk (([2] : List Int)) (([0] : List Int)) (([1] : List Int)) (([] : List A9)))) (([1] : List Int)) v1.1).bind fun v2 =>
 (F4 N ((Ad.mk (([2] : List Int)) (([0] : List Int)) (([1] : List Int)) (([] : List A9)))) (([1] : List Int)) ((Af.mk v2.1.fo v2.1.fk v2.1.fp v2.1.fr v2.1.fj v2.1.fe ((Ai.mk v2.1.fc.ff v2.1.fc.fd v2.1.fc.fg)))) ((Cr.mk 1 3 0 0 0 false 0))).bind fun v3 =>
 Bp (fun (v4 : Bool) =>
  AE v4
   (some false)
   ((B9 v3.2.1 0).bind fun v11 =>
   (BE N ((⟨#[]⟩ : ByteArray)) ((AC.mk v11.fO.fw v11.fO.fe v11.fO.fy v11.fO.fS))).bind fun v12 =>
   (GY N ((Ad.mk (([2] : List Int)) (([0] : List Int)) (([1] : List Int)) (([] : List A9)))) (([1] : List Int)) v1.1 v12.1).bind fun v13 =>
   Bp (fun (v14 : Bool) =>
    some v14)
   fun j14 =>
   AE ((v12.2 == 0))
    (AE ((v13.2.2 == 0))
     (AE ((v13.2.1 == (v12.1.size : Int)))
      ((GS N ((Af.mk v3.1.fo v3.1.fk v3.1.fp v3.1.fr v3.1.fj v3.1.fe ((Ai.mk v3.1.fc.ff v3.1.fc.fd v3.1.fc.fg)))) ((Af.mk v13.1.fo v13.1.fk v13.1.fp v13.1.fr v13.1.fj v13.1.fe ((Ai.mk v13.1.fc.ff v13.1.fc.fd v13.1.fc.fg))))).bind fun v18 =>
      j14 v18)
      (j14 false))
     (j14 false))
    (j14 false)))
 fun j4 =>
 AE ((v1.2 != 0))
  (j4 true)
  (AE ((v2.2 != 0))
   (j4 true)
   (AE ((v3.2.2 != 0))
    (j4 true)
    (AE (((v3.2.1.length : Int) != 2))
     (j4 true)
     ((B9 v3.2.1 0).bind fun v9 =>
     j4 (v9.fw != 1)))))
def C3 (_ : Nat) (p0 : AB) : Option Bool :=
 Bp (fun (v1 : Bool) =>
  some v1)
 fun j1 =>
 AE ((decide ((-1) ≤ p0.fE)))
  (AE ((decide (0 ≤ p0.fe)))
   (j1 (decide (0 ≤ p0.fI)))
   (j1 false))
  (j1 false)
def Dx (N : Nat) (p0 : AB) (p1 : Int) (p2 : Int) (p3 : Int) (p4 : Int) : Option Int :=
 (C3 N p0).bind fun v1 =>
 AE ((!v1))
  (some 1)
  (Bp (fun (v3 : Bool) =>
   AE v3
    (some 7)
    (some 0))
  fun j3 =>
  AE ((decide (p1 < 0)))
   (j3 true)
   (AE ((decide (p2 < 0)))
    (j3 true)
    (AE ((decide (p3 < 0)))
     (j3 true)
     (AE ((decide (p4 < 1)))
      (j3 true)
      (j3 (decide ((wI .i64 (9223372036854775807 - p4)) < p3)))))))
def Dw (_ : Nat) (p0 : AB) (p1 : Int) : Option Bool :=
 Bp (fun (v1 : Bool) =>
  some v1)
 fun j1 =>
 AE ((decide (0 ≤ p0.fE)))
  (AE ((decide (0 ≤ p1)))
   (j1 (decide (p1 < p0.fI)))
   (j1 false))
  (j1 false)
def Eb (_ : Nat) (p0 : AB) (p1 : Int) : Option AB :=
 some ((AB.mk p0.fE p0.fe ((Hk p0.fI p1))))
def Ey (N : Nat) (p0 : AB) (p1 : Int) (p2 : Int) (p3 : Int) : Option (AB × Int) :=
 (Dx N p0 p1 0 p2 p3).bind fun v1 =>
 AE ((v1 != 0))
  (some ((AB.mk 0 0 0), v1))
  (Bp (fun (v3 : Bool) =>
   AE v3
    (some ((AB.mk 0 0 0), 7))
    ((Dw N p0 p2).bind fun v7 =>
    AE ((!v7))
     (some ((AB.mk p1 ((wI .i64 (p0.fe + 1))) ((wI .i64 (p2 + p3)))), 0))
     (AE ((p0.fE != p1))
      (some ((AB.mk 0 0 0), 11))
      ((Eb N p0 ((wI .i64 (p2 + p3)))).bind fun v10 =>
      some (v10, 0)))))
  fun j3 =>
  (Dw N p0 p2).bind fun v4 =>
  AE ((!v4))
   (j3 (p0.fe == 9223372036854775807))
   (j3 false))
def EO (N : Nat) (p0 : AB) (p1 : Int) : Option Int :=
 Bp (fun (v1 : Bool) =>
  AE v1
   (some ((-1)))
   (some p0.fE))
 fun j1 =>
 (C3 N p0).bind fun v2 =>
 AE ((!v2))
  (j1 true)
  ((Dw N p0 p1).bind fun v4 =>
  j1 (!v4))
def Ed (N : Nat) (p0 : AB) (p1 : Int) (p2 : Int) (p3 : Int) : Option Bool :=
 Bp (fun (v1 : Bool) =>
  some v1)
 fun j1 =>
 (Dw N p0 p3).bind fun v2 =>
 AE v2
  (AE ((p0.fE == p1))
   (j1 (p0.fe == p2))
   (j1 false))
  (j1 false)
def Fe (N : Nat) (p0 : AB) (p1 : Int) (p2 : Int) (p3 : Int) (p4 : Int) : Option (AB × Int) :=
 (Dx N p0 p1 p2 p3 p4).bind fun v1 =>
 AE ((v1 != 0))
  (some ((AB.mk 0 0 0), v1))
  ((Ed N p0 p1 p2 p3).bind fun v3 =>
  AE ((!v3))
   (some ((AB.mk 0 0 0), 11))
   ((Eb N p0 ((wI .i64 (p3 + p4)))).bind fun v5 =>
   some (v5, 0)))
def Ev (N : Nat) (p0 : AB) (p1 : Int) (p2 : Int) (p3 : Int) : Option (AB × Int) :=
 (C3 N p0).bind fun v1 =>
 AE ((!v1))
  (some ((AB.mk 0 0 0), 1))
  (Bp (fun (v3 : Bool) =>
   AE v3
    (some ((AB.mk 0 0 0), 7))
    ((Ed N p0 p1 p2 p3).bind fun v7 =>
    AE ((!v7))
     (some ((AB.mk 0 0 0), 11))
     (some ((AB.mk ((-1)) p0.fe 0), 0))))
  fun j3 =>
  AE ((decide (p1 < 0)))
   (j3 true)
   (AE ((decide (p2 < 0)))
    (j3 true)
    (j3 (decide (p3 < 0)))))
def Fb (N : Nat) (p0 : AB) (p1 : Int) (p2 : Int) (p3 : Int) (p4 : Int) : Option Bool :=
 Bp (fun (v1 : Bool) =>
  some v1)
 fun j1 =>
 (C3 N p0).bind fun v2 =>
 AE v2
  (AE ((decide (0 ≤ p4)))
   ((Ed N p0 p1 p2 p3).bind fun v5 =>
   AE v5
    (j1 (decide (p4 < (wI .i64 (p0.fI - p3)))))
    (j1 false))
   (j1 false))
  (j1 false)
def AK (N : Nat) (v6 : AB × (List Int) × Int × ByteArray × Int) (v10 : Ch) (v11 : AB × (List Int) × ByteArray) (j42 : (Int × Int) → Option Bool) : Nat → (Int × Int × Int) → Option Bool
 | 0, _ => none
 | n42 + 1, v42 =>
  AE ((decide (v42.2.2 < 2)))
   (Bp (fun (v45 : Int × Int) =>
    AK N v6 v10 v11 j42 n42 (v45.1, v45.2, (wI .i64 (v42.2.2 + 1))))
   fun j45 =>
   Bp (fun (v46 : Int) =>
    (E6 (v11.2.1.length = 2)).bind fun _ =>
    (B9 v11.2.1 v42.2.2).bind fun v52 =>
    (BE N v11.2.2 ((AC.mk 1 v52 0 (⟨#[]⟩)))).bind fun v53 =>
    Bp (fun (v54 : Bool) =>
     AE v54
      (j45 (v46, (wI .i64 (v42.2.1 + 1))))
      (j45 (v46, v42.2.1)))
    fun j54 =>
    (E6 (v11.2.1.length = 2)).bind fun _ =>
    (B9 v11.2.1 v42.2.2).bind fun v56 =>
    AE ((decide (0 < v56)))
     (j54 (v53.2 == 0))
     (j54 false))
   fun j46 =>
   (E6 (v11.2.1.length = 2)).bind fun _ =>
   (B9 v11.2.1 v42.2.2).bind fun v48 =>
   (Fb N v11.1 v42.2.2 v48 ((wI .i64 (v6.2.2.1 + (wI .i64 ((zI v10.fB 8)))))) 0).bind fun v49 =>
   AE v49
    (j46 (wI .i64 (v42.1 + 1)))
    (j46 v42.1))
   (j42 (v42.1, v42.2.1))
def Bt (N : Nat) (v40 : (List AC) × Int × Int) (j62 : Unit → Option Bool) : Nat → Int → Option Bool
 | 0, _ => none
 | n62 + 1, v62 =>
  AE ((decide (v62 < (v40.1.length : Int))))
   ((B9 v40.1 v62).bind fun v65 =>
   (B9 v40.1 ((wI .i64 (v62 - 1)))).bind fun v66 =>
   AE ((decide (v65.fe < v66.fe)))
    (some false)
    (Bt N v40 j62 n62 (wI .i64 (v62 + 1))))
   (j62 ())
def Bl (N : Nat) (p0 : List Ch) (j6 : Unit → Option Bool) : Nat → (AB × (List Int) × Int × ByteArray × Int) → Option Bool
 | 0, _ => none
 | n6 + 1, v6 =>
  AE ((decide (v6.2.2.2.2 < (p0.length : Int))))
   (Bp (fun (v9 : AB × (List Int) × Int × ByteArray) =>
    Bl N p0 j6 n6 (v9.1, v9.2.1, v9.2.2.1, v9.2.2.2, (wI .i64 (v6.2.2.2.2 + 1))))
   fun j9 =>
   (B9 p0 v6.2.2.2.2).bind fun v10 =>
   Bp (fun (v11 : AB × (List Int) × ByteArray) =>
    (Dd N v11.2.2).bind fun v40 =>
    AE ((v40.2.2 != 0))
     (some false)
     (AK N v6 v10 v11 (fun (v43 : Int × Int) =>
      Bp (fun (v59 : Bool) =>
       AE v59
        (some false)
        (Bt N v40 (fun (_ : Unit) =>
         j9 (v11.1, v11.2.1, (wI .i64 (v6.2.2.1 + (wI .i64 ((zI v10.fB 8))))), v11.2.2)) N 1))
      fun j59 =>
      AE ((decide (1 < v43.1)))
       (j59 true)
       (j59 (decide (1 < v43.2)))) N (0, 0, 0)))
   fun j11 =>
   AE (((zI v10.fw 4) == 0))
    ((Ey N v6.1 ((wI .i64 ((zI v10.fH 2)))) ((wI .i64 (v6.2.2.1 + (wI .i64 ((zI v10.fB 8)))))) ((wI .i64 (1 + (wI .i64 ((zI v10.fQ 10))))))).bind fun v13 =>
    AE ((v13.2 != 0))
     (Bp (fun (v15 : Bool) =>
      AE v15
       (some false)
       (j9 (v6.1, v6.2.1, (wI .i64 (v6.2.2.1 + (wI .i64 ((zI v10.fB 8))))), v6.2.2.2.1)))
     fun j15 =>
     AE ((v13.2 != 11))
      (j15 true)
      ((EO N v6.1 ((wI .i64 (v6.2.2.1 + (wI .i64 ((zI v10.fB 8))))))).bind fun v17 =>
      j15 (v17 != (wI .i64 (1 - (wI .i64 ((zI v10.fH 2))))))))
     ((E6 (v6.2.1.length = 2)).bind fun _ =>
     (B9 v6.2.1 ((wI .i64 ((zI v10.fH 2))))).bind fun v20 =>
     AE ((v13.1.fe != v20))
      ((E6 (v6.2.1.length = 2)).bind fun _ =>
      (B9 v6.2.1 ((wI .i64 ((zI v10.fH 2))))).bind fun _ =>
      (BE N v6.2.2.2.1 ((AC.mk 5 v13.1.fe 0 (⟨#[]⟩)))).bind fun v24 =>
      AE ((v24.2 != 0))
       (some false)
       (j11 (v13.1, v6.2.1.set (((wI .i64 ((zI v10.fH 2)))).toNat) v13.1.fe, v24.1)))
      (j11 (v13.1, v6.2.1, v6.2.2.2.1))))
    (AE (((zI v10.fw 4) == 1))
     ((E6 (v6.2.1.length = 2)).bind fun _ =>
     (B9 v6.2.1 ((wI .i64 ((zI v10.fH 2))))).bind fun v28 =>
     (Fe N v6.1 ((wI .i64 ((zI v10.fH 2)))) v28 ((wI .i64 (v6.2.2.1 + (wI .i64 ((zI v10.fB 8)))))) ((wI .i64 (1 + (wI .i64 ((zI v10.fQ 10))))))).bind fun v29 =>
     AE ((v29.2 == 0))
      (j11 (v29.1, v6.2.1, v6.2.2.2.1))
      (j11 (v6.1, v6.2.1, v6.2.2.2.1)))
     (AE (((zI v10.fw 4) == 2))
      ((E6 (v6.2.1.length = 2)).bind fun _ =>
      (B9 v6.2.1 ((wI .i64 ((zI v10.fH 2))))).bind fun v33 =>
      (Ev N v6.1 ((wI .i64 ((zI v10.fH 2)))) v33 ((wI .i64 (v6.2.2.1 + (wI .i64 ((zI v10.fB 8))))))).bind fun v34 =>
      AE ((v34.2 == 0))
       (j11 (v34.1, v6.2.1, v6.2.2.2.1))
       (j11 (v6.1, v6.2.1, v6.2.2.2.1)))
      ((E6 (v6.2.1.length = 2)).bind fun _ =>
      (B9 v6.2.1 ((wI .i64 ((zI v10.fH 2))))).bind fun v37 =>
      (BE N v6.2.2.2.1 ((AC.mk 1 v37 0 (⟨#[]⟩)))).bind fun v38 =>
      AE ((v38.2 == 0))
       (j11 (v6.1, v6.2.1, v38.1))
       (j11 (v6.1, v6.2.1, v6.2.2.2.1))))))
   (j6 ())
def CG (N : Nat) (p0 : List Ch) : Option Bool :=
 Bp (fun (v1 : Bool) =>
  AE v1
   ((C7 N).bind fun v5 =>
   some v5)
   (Bl N p0 (fun (_ : Unit) =>
    some true) N ((AB.mk ((-1)) 0 0), ([0, 0] : List Int), 0, (⟨#[]⟩ : ByteArray), 0)))
 fun j1 =>
 (C7 N).bind fun v2 =>
 AE ((!v2))
  (j1 true)
  (j1 (decide (30 < (p0.length : Int))))
def Vz {α : Type} (w : α → Prop) (xs : List α) : Prop := ∀ x, x ∈ xs → w x
def Uj (n : Int) : Prop := (Lit.int .u8 n).wf = true
def Fd (x : Ch) : Prop := Uj x.fH ∧ Uj x.fw ∧ Uj x.fB ∧ Uj x.fQ ∧ True
open Go.RowKit
open Go.Proofs
abbrev Cq (x : A9) : List C := [iC x.fw, iC x.fF, iC x.fU, .pure (.val (.bool x.fV)), sC (x.fJ.map (O0 eB)), sC (x.fR.map (O0 eB))]
abbrev Aw (x : Ad) : List C := [sC (x.fi.map Aa), sC (x.fm.map Aa), sC (x.fq.map Aa), sC (x.fh.map Am)]
abbrev AR (x : Ai) : List C := [sC (x.ff.map Aa), sC (x.fd.map Aa), sC (x.fg.map Bd)]
abbrev Gm (x : AD) : List C := [iC x.fT, iC x.fY, iC x.fZ]
abbrev Bz (x : Al) : List C := [iC x.fw, iC x.fy, iC x.fA]
abbrev Qa (x : AN) : List C := [sC (x.fD.ff.map Aa), sC (x.fD.fd.map Aa), sC (x.fD.fg.map Bd), iC x.fF, iC x.fG.fw, iC x.fG.fy, iC x.fG.fA, sC (x.fd.map Aa)]
abbrev Bb (x : Af) : List C := [sC (x.fo.map Ae), iC x.fk, iC x.fp, iC x.fr, iC x.fj, iC x.fe, sC (x.fc.ff.map Aa), sC (x.fc.fd.map Aa), sC (x.fc.fg.map Bd)]
abbrev BU (x : Cr) : List C := [iC x.fw, iC x.fe, iC x.fj, iC x.fr, iC x.fA, .pure (.val (.bool x.fW)), iC x.fT]
abbrev Cz (x : Bc) : List C := [sC (x.fb.fi.map Aa), sC (x.fb.fm.map Aa), sC (x.fb.fq.map Aa), sC (x.fb.fh.map Am), sC (x.fN.map Ae), sC (x.fK.map CR)]
abbrev GP (x : AC) : List C := [iC x.fw, iC x.fe, iC x.fy, .pure (.val (.string x.fS))]
abbrev OX (x : BL) : List C := [iC x.fj, iC x.fr, iC x.fA]
abbrev A2 (x : AA) : List C := [sC (x.fb.fi.map Aa), sC (x.fb.fm.map Aa), sC (x.fb.fq.map Aa), sC (x.fb.fh.map Am), sC (x.fu.map Aa), sC (x.fa.fo.map Ae), iC x.fa.fk, iC x.fa.fp, iC x.fa.fr, iC x.fa.fj, iC x.fa.fe, sC (x.fa.fc.ff.map Aa), sC (x.fa.fc.fd.map Aa), sC (x.fa.fc.fg.map Bd)]
abbrev Bh (x : AB) : List C := [iC x.fE, iC x.fe, iC x.fI]
theorem Az : Tryz.prog.follows .mixedOrders = true := by kernel_rfl
theorem wq {X : GX} {y : Code} {id : Nat} {ops : Array Oper} {dr : Bool} {Q : Exit → St → Prop} {st : St} {n : Nat} (hn : ops.size = n) (h : AY zA X ops dr (fun st' => W zA X y Q st') n 0 st []) : W zA X (.seq (.region id ops dr) y) Q st := WK Az hn h
theorem wp {X : GX} {y z : Code} {id : Nat} {ops : Array Oper} {dr : Bool} {Q : Exit → St → Prop} {st : St} {n : Nat} (hn : ops.size = n) (h : AY zA X ops dr (fun st' => W zA X y (Nn (W zA X z Q) Q) st') n 0 st []) : W zA X (.seq (.seq (.region id ops dr) y) z) Q st := AH (WK Az hn h)
theorem KA : CX zA 105 false = true := by kernel_rfl
theorem IG : CX zA 107 true = true := by kernel_rfl
theorem KC : CX zA 109 false = true := by kernel_rfl
theorem UL : CX zA 117 true = true := by kernel_rfl
theorem I6 : CX zA 124 true = true := by kernel_rfl
theorem PN : CX zA 170 false = true := by kernel_rfl
theorem On : CX zA 175 false = true := by kernel_rfl
theorem Nk : CX zA 187 true = true := by kernel_rfl
theorem JP : CX zA 2 false = true := by kernel_rfl
theorem EW : CX zA 25 true = true := by kernel_rfl
theorem Wo : CX zA 28 true = true := by kernel_rfl
theorem Bs : CX zA 3 false = true := by kernel_rfl
theorem LV : CX zA 36 true = true := by kernel_rfl
theorem TG : CX zA 4 false = true := by kernel_rfl
theorem B6 : CX zA 43 false = true := by kernel_rfl
theorem Mk : CX zA 44 false = true := by kernel_rfl
theorem Cp : CX zA 46 true = true := by kernel_rfl
theorem Kk : CX zA 47 false = true := by kernel_rfl
theorem UE : CX zA 5 false = true := by kernel_rfl
theorem JV : CX zA 50 false = true := by kernel_rfl
theorem Bq : CX zA 52 true = true := by kernel_rfl
theorem GR : CX zA 54 true = true := by kernel_rfl
theorem QC : CX zA 57 false = true := by kernel_rfl
theorem Rq : CX zA 61 true = true := by kernel_rfl
theorem Wz : CX zA 63 true = true := by kernel_rfl
theorem E5 : CX zA 87 true = true := by kernel_rfl
theorem WP : CX zA 9 false = true := by kernel_rfl
theorem V6 : CX zA 95 false = true := by kernel_rfl
theorem NW : Q7 zA 101 3 2 = true := by kernel_rfl
theorem Ly : Q7 zA 26 2 2 = true := by kernel_rfl
theorem WT : PS zA 4 = true := by kernel_rfl
theorem NK : KS zA 140 = true := by kernel_rfl
theorem Rk : DA zA 109 1 = true := by kernel_rfl
theorem TR : DA zA 117 128 = true := by kernel_rfl
theorem Rl : DA zA 124 24 = true := by kernel_rfl
theorem SN : DA zA 3 8 = true := by kernel_rfl
theorem Va : DA zA 36 40 = true := by kernel_rfl
theorem SD : DA zA 5 1 = true := by kernel_rfl
theorem Tr : DA zA 52 72 = true := by kernel_rfl
theorem PC : DA zA 65 88 = true := by kernel_rfl
theorem OV : DA zA 87 24 = true := by kernel_rfl
theorem HM : A5 zA 107 0 0 = true := by kernel_rfl
theorem Gz : A5 zA 107 1 1 = true := by kernel_rfl
theorem Mc : A5 zA 107 2 2 = true := by kernel_rfl
theorem MF : A5 zA 107 3 3 = true := by kernel_rfl
theorem L7 : A5 zA 107 4 4 = true := by kernel_rfl
theorem IH : A5 zA 107 5 5 = true := by kernel_rfl
theorem L8 : A5 zA 117 0 0 = true := by kernel_rfl
theorem OI : A5 zA 117 1 3 = true := by kernel_rfl
theorem Rd : A5 zA 117 2 4 = true := by kernel_rfl
theorem Oj : A5 zA 117 3 7 = true := by kernel_rfl
theorem QU : A5 zA 131 0 0 = true := by kernel_rfl
theorem MK : A5 zA 131 1 4 = true := by kernel_rfl
theorem AX : A5 zA 131 2 5 = true := by kernel_rfl
theorem GA : A5 zA 131 3 14 = true := by kernel_rfl
theorem MC : A5 zA 135 0 0 = true := by kernel_rfl
theorem Q1 : A5 zA 135 1 4 = true := by kernel_rfl
theorem Ct : A5 zA 135 2 5 = true := by kernel_rfl
theorem Q0 : A5 zA 187 0 0 = true := by kernel_rfl
theorem KK : A5 zA 187 1 4 = true := by kernel_rfl
theorem Jw : A5 zA 187 2 5 = true := by kernel_rfl
theorem Kq : A5 zA 25 0 0 = true := by kernel_rfl
theorem H2 : A5 zA 25 1 1 = true := by kernel_rfl
theorem KJ : A5 zA 25 2 2 = true := by kernel_rfl
theorem SA : A5 zA 28 0 0 = true := by kernel_rfl
theorem SE : A5 zA 28 1 1 = true := by kernel_rfl
theorem Si : A5 zA 28 2 2 = true := by kernel_rfl
theorem PJ : A5 zA 28 3 3 = true := by kernel_rfl
theorem LY : A5 zA 36 0 0 = true := by kernel_rfl
theorem JI : A5 zA 36 1 1 = true := by kernel_rfl
theorem Nz : A5 zA 36 2 2 = true := by kernel_rfl
theorem R0 : A5 zA 36 3 3 = true := by kernel_rfl
theorem EK : A5 zA 46 0 0 = true := by kernel_rfl
theorem KO : A5 zA 46 1 1 = true := by kernel_rfl
theorem NE : A5 zA 46 2 2 = true := by kernel_rfl
theorem Gq : A5 zA 46 3 3 = true := by kernel_rfl
theorem Dn : A5 zA 52 0 0 = true := by kernel_rfl
theorem CP : A5 zA 52 1 1 = true := by kernel_rfl
theorem Eq : A5 zA 52 2 2 = true := by kernel_rfl
theorem FK : A5 zA 54 0 0 = true := by kernel_rfl
theorem Dk : A5 zA 54 1 1 = true := by kernel_rfl
theorem Bv : A5 zA 54 2 2 = true := by kernel_rfl
theorem Ep : A5 zA 54 3 3 = true := by kernel_rfl
theorem FQ : A5 zA 54 4 4 = true := by kernel_rfl
theorem JM : A5 zA 54 5 5 = true := by kernel_rfl
theorem DH : A5 zA 54 6 6 = true := by kernel_rfl
theorem PU : A5 zA 61 0 0 = true := by kernel_rfl
theorem PB : A5 zA 61 1 1 = true := by kernel_rfl
theorem NI : A5 zA 61 2 2 = true := by kernel_rfl
theorem Sk : A5 zA 61 3 3 = true := by kernel_rfl
theorem Sj : A5 zA 61 4 4 = true := by kernel_rfl
theorem ST : A5 zA 61 5 5 = true := by kernel_rfl
theorem Sn : A5 zA 61 6 6 = true := by kernel_rfl
theorem RX : A5 zA 65 0 0 = true := by kernel_rfl
theorem Sx : A5 zA 65 1 1 = true := by kernel_rfl
theorem DJ : A5 zA 87 0 0 = true := by kernel_rfl
theorem CB : A5 zA 87 1 1 = true := by kernel_rfl
theorem JL : A5 zA 87 2 2 = true := by kernel_rfl
theorem N2 : N8 zA 87 1 1 3 = true := by kernel_rfl
theorem Ts : Ay zA 10 = true := by kernel_rfl
theorem RH : Ay zA 100 = true := by kernel_rfl
theorem U6 : Ay zA 101 = true := by kernel_rfl
theorem UI : Ay zA 102 = true := by kernel_rfl
theorem UU : Ay zA 103 = true := by kernel_rfl
theorem Tf : Ay zA 104 = true := by kernel_rfl
theorem S5 : Ay zA 105 = true := by kernel_rfl
theorem UJ : Ay zA 106 = true := by kernel_rfl
theorem QH : Ay zA 107 = true := by kernel_rfl
theorem QJ : Ay zA 108 = true := by kernel_rfl
theorem QW : Ay zA 109 = true := by kernel_rfl
theorem VU : Ay zA 11 = true := by kernel_rfl
theorem RC : Ay zA 110 = true := by kernel_rfl
theorem Uq : Ay zA 111 = true := by kernel_rfl
theorem S6 : Ay zA 112 = true := by kernel_rfl
theorem Ta : Ay zA 113 = true := by kernel_rfl
theorem Vj : Ay zA 114 = true := by kernel_rfl
theorem UC : Ay zA 115 = true := by kernel_rfl
theorem UB : Ay zA 116 = true := by kernel_rfl
theorem Tj : Ay zA 117 = true := by kernel_rfl
theorem UT : Ay zA 118 = true := by kernel_rfl
theorem Vr : Ay zA 119 = true := by kernel_rfl
theorem VT : Ay zA 12 = true := by kernel_rfl
theorem US : Ay zA 120 = true := by kernel_rfl
theorem UA : Ay zA 121 = true := by kernel_rfl
theorem U0 : Ay zA 122 = true := by kernel_rfl
theorem Uy : Ay zA 123 = true := by kernel_rfl
theorem UF : Ay zA 124 = true := by kernel_rfl
theorem Te : Ay zA 125 = true := by kernel_rfl
theorem Vl : Ay zA 126 = true := by kernel_rfl
theorem Ur : Ay zA 127 = true := by kernel_rfl
theorem UZ : Ay zA 128 = true := by kernel_rfl
theorem Ve : Ay zA 13 = true := by kernel_rfl
theorem Wx : Ay zA 14 = true := by kernel_rfl
theorem V5 : Ay zA 15 = true := by kernel_rfl
theorem Wg : Ay zA 16 = true := by kernel_rfl
theorem Uv : Ay zA 17 = true := by kernel_rfl
theorem R2 : Ay zA 18 = true := by kernel_rfl
theorem UD : Ay zA 19 = true := by kernel_rfl
theorem SQ : Ay zA 20 = true := by kernel_rfl
theorem TS : Ay zA 21 = true := by kernel_rfl
theorem Wc : Ay zA 22 = true := by kernel_rfl
theorem VA : Ay zA 23 = true := by kernel_rfl
theorem TC : Ay zA 24 = true := by kernel_rfl
theorem VR : Ay zA 25 = true := by kernel_rfl
theorem VK : Ay zA 26 = true := by kernel_rfl
theorem R7 : Ay zA 27 = true := by kernel_rfl
theorem VQ : Ay zA 28 = true := by kernel_rfl
theorem Ui : Ay zA 29 = true := by kernel_rfl
theorem UR : Ay zA 30 = true := by kernel_rfl
theorem UH : Ay zA 31 = true := by kernel_rfl
theorem VC : Ay zA 32 = true := by kernel_rfl
theorem V1 : Ay zA 33 = true := by kernel_rfl
theorem VH : Ay zA 34 = true := by kernel_rfl
theorem TA : Ay zA 35 = true := by kernel_rfl
theorem VZ : Ay zA 36 = true := by kernel_rfl
theorem WI : Ay zA 37 = true := by kernel_rfl
theorem Vk : Ay zA 38 = true := by kernel_rfl
theorem Vt : Ay zA 39 = true := by kernel_rfl
theorem WL : Ay zA 4 = true := by kernel_rfl
theorem Sf : Ay zA 40 = true := by kernel_rfl
theorem Pl : Ay zA 41 = true := by kernel_rfl
theorem Wl : Ay zA 42 = true := by kernel_rfl
theorem T8 : Ay zA 43 = true := by kernel_rfl
theorem UX : Ay zA 44 = true := by kernel_rfl
theorem Ws : Ay zA 45 = true := by kernel_rfl
theorem Wb : Ay zA 46 = true := by kernel_rfl
theorem VD : Ay zA 47 = true := by kernel_rfl
theorem U8 : Ay zA 48 = true := by kernel_rfl
theorem Wk : Ay zA 49 = true := by kernel_rfl
theorem WS : Ay zA 5 = true := by kernel_rfl
theorem UO : Ay zA 50 = true := by kernel_rfl
theorem VB : Ay zA 51 = true := by kernel_rfl
theorem Wd : Ay zA 52 = true := by kernel_rfl
theorem Wa : Ay zA 53 = true := by kernel_rfl
theorem VF : Ay zA 54 = true := by kernel_rfl
theorem V8 : Ay zA 55 = true := by kernel_rfl
theorem Wi : Ay zA 56 = true := by kernel_rfl
theorem WG : Ay zA 57 = true := by kernel_rfl
theorem U5 : Ay zA 58 = true := by kernel_rfl
theorem VJ : Ay zA 59 = true := by kernel_rfl
theorem WR : Ay zA 6 = true := by kernel_rfl
theorem Up : Ay zA 60 = true := by kernel_rfl
theorem WE : Ay zA 61 = true := by kernel_rfl
theorem VI : Ay zA 62 = true := by kernel_rfl
theorem Sw : Ay zA 63 = true := by kernel_rfl
theorem VS : Ay zA 64 = true := by kernel_rfl
theorem V3 : Ay zA 65 = true := by kernel_rfl
theorem Ty : Ay zA 66 = true := by kernel_rfl
theorem U1 : Ay zA 67 = true := by kernel_rfl
theorem VG : Ay zA 68 = true := by kernel_rfl
theorem QD : Ay zA 69 = true := by kernel_rfl
theorem Vw : Ay zA 7 = true := by kernel_rfl
theorem Q4 : Ay zA 70 = true := by kernel_rfl
theorem Wp : Ay zA 71 = true := by kernel_rfl
theorem VY : Ay zA 72 = true := by kernel_rfl
theorem Wm : Ay zA 73 = true := by kernel_rfl
theorem WB : Ay zA 74 = true := by kernel_rfl
theorem WJ : Ay zA 75 = true := by kernel_rfl
theorem TT : Ay zA 76 = true := by kernel_rfl
theorem Vo : Ay zA 77 = true := by kernel_rfl
theorem V2 : Ay zA 78 = true := by kernel_rfl
theorem WA : Ay zA 79 = true := by kernel_rfl
theorem WN : Ay zA 8 = true := by kernel_rfl
theorem Pc : Ay zA 80 = true := by kernel_rfl
theorem TY : Ay zA 81 = true := by kernel_rfl
theorem Sr : Ay zA 82 = true := by kernel_rfl
theorem Wy : Ay zA 83 = true := by kernel_rfl
theorem WD : Ay zA 84 = true := by kernel_rfl
theorem VW : Ay zA 85 = true := by kernel_rfl
theorem TQ : Ay zA 86 = true := by kernel_rfl
theorem Wv : Ay zA 87 = true := by kernel_rfl
theorem VV : Ay zA 88 = true := by kernel_rfl
theorem V7 : Ay zA 89 = true := by kernel_rfl
theorem WM : Ay zA 9 = true := by kernel_rfl
theorem UW : Ay zA 90 = true := by kernel_rfl
theorem V0 : Ay zA 91 = true := by kernel_rfl
theorem Wr : Ay zA 92 = true := by kernel_rfl
theorem VX : Ay zA 93 = true := by kernel_rfl
theorem WF : Ay zA 94 = true := by kernel_rfl
theorem VN : Ay zA 95 = true := by kernel_rfl
theorem WC : Ay zA 96 = true := by kernel_rfl
theorem VO : Ay zA 97 = true := by kernel_rfl
theorem UY : Ay zA 98 = true := by kernel_rfl
theorem Uu : Ay zA 99 = true := by kernel_rfl
theorem Vu : L5 zA 2 .i64 = true := by kernel_rfl
theorem Vx : L5 zA 3 .i64 = true := by kernel_rfl
theorem Um : L5 zA 5 .u8 = true := by kernel_rfl
theorem Ov : L5 zA 95 .u64 = true := by kernel_rfl
theorem Nt : L5 zA 98 .u32 = true := by kernel_rfl
theorem Sa : L5 zA 99 .u64 = true := by kernel_rfl
theorem TL : Tryz.prog.underlying 9 = some .string := by kernel_rfl
theorem NX : Tryz.prog.underlying 151 = some (.map 9 3) := by kernel_rfl
theorem Tc : D6 zA 117 = some [(0, 3), (3, 1), (4, 3), (7, 1)] := by kernel_rfl
theorem Ls : D6 zA 124 = some [(0, 1), (1, 1), (2, 1)] := by kernel_rfl
theorem UK : D6 zA 131 = some [(0, 4), (4, 1), (5, 9), (14, 1)] := by kernel_rfl
theorem Vg : D6 zA 135 = some [(0, 4), (4, 1), (5, 9)] := by kernel_rfl
theorem QS : D6 zA 187 = some [(0, 4), (4, 1), (5, 1)] := by kernel_rfl
theorem Mr : D6 zA 25 = some [(0, 1), (1, 1), (2, 1)] := by kernel_rfl
theorem P2 : D6 zA 36 = some [(0, 1), (1, 1), (2, 1), (3, 1)] := by kernel_rfl
theorem Wn : D6 zA 46 = some [(0, 1), (1, 1), (2, 1), (3, 1)] := by kernel_rfl
theorem Jo : D6 zA 52 = some [(0, 1), (1, 1), (2, 1)] := by kernel_rfl
theorem Om : D6 zA 54 = some [(0, 1), (1, 1), (2, 1), (3, 1), (4, 1), (5, 1), (6, 3)] := by kernel_rfl
theorem VM : D6 zA 61 = some [(0, 1), (1, 1), (2, 1), (3, 1), (4, 1), (5, 1), (6, 1)] := by kernel_rfl
theorem Uf : D6 zA 63 = some [(0, 1), (1, 1), (2, 1)] := by kernel_rfl
theorem RY : D6 zA 65 = some [(0, 1), (1, 4), (5, 3), (8, 1), (9, 1)] := by kernel_rfl
theorem Pw : D6 zA 87 = some [(0, 1), (1, 1), (2, 1)] := by kernel_rfl
theorem UP : RG zA 63 = some [0, 0, 0] := by kernel_rfl
theorem Uw : RG zA 87 = some [0, 0, 0] := by kernel_rfl
theorem Ie : sliceB zA 105 170 = true := by kernel_rfl
theorem Fy : sliceB zA 112 117 = true := by kernel_rfl
theorem I5 : sliceB zA 140 5 = true := by kernel_rfl
theorem O4 : sliceB zA 142 95 = true := by kernel_rfl
theorem MJ : sliceB zA 170 4 = true := by kernel_rfl
theorem FX : sliceB zA 175 52 = true := by kernel_rfl
theorem Jn : sliceB zA 178 124 = true := by kernel_rfl
theorem QB : sliceB zA 22 28 = true := by kernel_rfl
theorem JY : sliceB zA 38 36 = true := by kernel_rfl
theorem AP : sliceB zA 43 3 = true := by kernel_rfl
theorem Hs : sliceB zA 44 107 = true := by kernel_rfl
theorem BH : sliceB zA 47 87 = true := by kernel_rfl
theorem EY : sliceB zA 50 109 = true := by kernel_rfl
theorem HF : sliceB zA 57 65 = true := by kernel_rfl
theorem Q2 : sliceB zA 89 61 = true := by kernel_rfl
theorem WO : (Tryz.prog.underlying 2).isSome = true := by kernel_rfl
theorem Uk : (Tryz.prog.underlying 3).isSome = true := by kernel_rfl
theorem Qo : (Tryz.prog.underlying 5).isSome = true := by kernel_rfl
theorem SM : (Tryz.prog.underlying 95).isSome = true := by kernel_rfl
theorem OS : (Tryz.prog.underlying 98).isSome = true := by kernel_rfl
theorem TH : (Tryz.prog.underlying 99).isSome = true := by kernel_rfl
theorem HX : HD zA 9 = true := by kernel_rfl
theorem EQ : E9 zA 107 6 = true := by kernel_rfl
theorem GK : E9 zA 109 1 = true := by kernel_rfl
theorem Jb : E9 zA 117 8 = true := by kernel_rfl
theorem DO : E9 zA 124 3 = true := by kernel_rfl
theorem Pz : E9 zA 170 1 = true := by kernel_rfl
theorem J2 : E9 zA 187 6 = true := by kernel_rfl
theorem OP : E9 zA 2 1 = true := by kernel_rfl
theorem CN : E9 zA 25 3 = true := by kernel_rfl
theorem T3 : E9 zA 28 4 = true := by kernel_rfl
theorem Dz : E9 zA 3 1 = true := by kernel_rfl
theorem HU : E9 zA 36 4 = true := by kernel_rfl
theorem Wj : E9 zA 4 1 = true := by kernel_rfl
theorem Wh : E9 zA 43 1 = true := by kernel_rfl
theorem Cm : E9 zA 46 4 = true := by kernel_rfl
theorem V4 : E9 zA 47 1 = true := by kernel_rfl
theorem T1 : E9 zA 5 1 = true := by kernel_rfl
theorem AO : E9 zA 52 3 = true := by kernel_rfl
theorem DN : E9 zA 54 9 = true := by kernel_rfl
theorem SK : E9 zA 57 1 = true := by kernel_rfl
theorem OO : E9 zA 61 7 = true := by kernel_rfl
theorem Vn : E9 zA 63 3 = true := by kernel_rfl
theorem M2 : E9 zA 65 10 = true := by kernel_rfl
theorem BG : E9 zA 87 3 = true := by kernel_rfl
theorem U2 : E9 zA 95 1 = true := by kernel_rfl
theorem Vq : BM zA 101 = some (.agg #[.int .i64 0, .int .i64 0, .int .i64 0]) := by kernel_rfl
theorem Np : BM zA 107 = some (.agg #[.int .i64 0, .int .i64 0, .int .i64 0, .bool false, .slice none 0 0, .slice none 0 0]) := by kernel_rfl
theorem RD : BM zA 109 = some (.int .u8 0) := by kernel_rfl
theorem Oo : BM zA 117 = some (.agg #[.slice none 0 0, .slice none 0 0, .slice none 0 0, .int .i64 0, .int .i64 0, .int .i64 0, .int .i64 0, .slice none 0 0]) := by kernel_rfl
theorem GJ : BM zA 124 = some (.agg #[.int .i64 0, .int .i64 0, .int .i64 0]) := by kernel_rfl
theorem Vd : BM zA 131 = some (.agg #[.slice none 0 0, .slice none 0 0, .slice none 0 0, .slice none 0 0, .slice none 0 0, .slice none 0 0, .int .i64 0, .int .i64 0, .int .i64 0, .int .i64 0, .int .i64 0, .slice none 0 0, .slice none 0 0, .slice none 0 0, .slice none 0 0]) := by kernel_rfl
theorem Us : BM zA 135 = some (.agg #[.slice none 0 0, .slice none 0 0, .slice none 0 0, .slice none 0 0, .slice none 0 0, .slice none 0 0, .int .i64 0, .int .i64 0, .int .i64 0, .int .i64 0, .int .i64 0, .slice none 0 0, .slice none 0 0, .slice none 0 0]) := by kernel_rfl
theorem N9 : BM zA 187 = some (.agg #[.slice none 0 0, .slice none 0 0, .slice none 0 0, .slice none 0 0, .slice none 0 0, .slice none 0 0]) := by kernel_rfl
theorem IN : BM zA 25 = some (.agg #[.int .i64 0, .int .i64 0, .int .i64 0]) := by kernel_rfl
theorem VP : BM zA 26 = some (.agg #[.int .i64 0, .int .i64 0]) := by kernel_rfl
theorem Wf : BM zA 28 = some (.agg #[.int .u8 0, .int .u8 0, .int .u8 0, .int .u8 0]) := by kernel_rfl
theorem O3 : BM zA 3 = some (.int .i64 0) := by kernel_rfl
theorem LO : BM zA 36 = some (.agg #[.int .i64 0, .int .i64 0, .int .i64 0, .string ⟨#[]⟩]) := by kernel_rfl
theorem U4 : BM zA 46 = some (.agg #[.slice none 0 0, .slice none 0 0, .slice none 0 0, .slice none 0 0]) := by kernel_rfl
theorem TK : BM zA 5 = some (.int .u8 0) := by kernel_rfl
theorem C4 : BM zA 52 = some (.agg #[.slice none 0 0, .slice none 0 0, .slice none 0 0]) := by kernel_rfl
theorem IV : BM zA 54 = some (.agg #[.slice none 0 0, .int .i64 0, .int .i64 0, .int .i64 0, .int .i64 0, .int .i64 0, .slice none 0 0, .slice none 0 0, .slice none 0 0]) := by kernel_rfl
theorem Tt : BM zA 61 = some (.agg #[.int .i64 0, .int .i64 0, .int .i64 0, .int .i64 0, .int .i64 0, .bool false, .int .i64 0]) := by kernel_rfl
theorem Se : BM zA 63 = some (.agg #[.int .i64 0, .int .i64 0, .int .i64 0]) := by kernel_rfl
theorem LL : BM zA 65 = some (.agg #[.int .i64 0, .int .i64 0, .int .i64 0, .int .i64 0, .string ⟨#[]⟩, .int .i64 0, .int .i64 0, .int .i64 0, .int .i64 0, .int .i64 0]) := by kernel_rfl
theorem Gd : BM zA 87 = some (.agg #[.int .i64 0, .int .i64 0, .int .i64 0]) := by kernel_rfl
theorem WH : BM zA 95 = some (.int .u64 0) := by kernel_rfl
set_option maxRecDepth 10000
theorem Gu (N : Nat) (p0 : Int) (p1 : Int) (r : Bool) (h : D0 N p0 p1 = some r) : Ar zA 63 [iD p0, iD p1] [] (bD r) := by
 unfold D0 at h
 refine cw (n := 12) (rs := [.tmp 4]) Tryz.func63 fun w0 S0 => ?_
 refine wq rfl (qe rfl ?_)
 refine AF h (fun v1 => mk [(4, bD v1)] []) (fun j1 h => ?_) (fun v1 h => ?_)
 ·refine Aj Az rfl (qm rfl (EC rfl (qm rfl ?_)))
  refine Dv 7 h rfl (fun h => ?_) fun h => ?_
  ·refine qw 2 rfl (A8 rfl (qp rfl (qe rfl ?_)))
   exact sn [] h
  ·refine qw 3 rfl (qp rfl (qe rfl ?_))
   exact sn [] h
 ·obtain rfl := sj h
  refine Ag (sm [] [(4, bD v1)] [] rfl rfl) (Ap ?_)
  exact ⟨⟨[_], tm, rfl⟩, tv⟩
theorem NT (N : Nat) (p0 : Int) (p1 : Bool) (r : Bool) (h : It N p0 p1 = some r) : Ar zA 89 [iD p0, bD p1] [] (bD r) := by
 unfold It at h
 refine cw (n := 23) (rs := [.tmp 4]) Tryz.func89 fun w0 S0 => ?_
 refine wq rfl (qe rfl ?_)
 refine AF h (fun v1 => mk [(4, bD v1)] []) (fun j1 h => ?_) (fun v1 h => ?_)
 ·refine Aj Az rfl (qm rfl (AL rfl (qm rfl ?_)))
  refine Dv 7 h rfl (fun h => ?_) fun h => ?_
  ·refine qw 2 rfl (qp rfl (qw 4 rfl (qu rfl (qu rfl (qw 2 rfl (qu rfl (qu rfl (qn rfl (qp rfl (qe rfl ?_))))))))))
   exact sn [] h
  ·refine qm rfl (AL rfl (qp rfl (qm rfl ?_)))
   refine Dv 11 h rfl (fun h => ?_) fun h => ?_
   ·refine qw 3 rfl (qu rfl (qu rfl (qw 2 rfl (qu rfl (qu rfl (qn rfl (qp rfl (qe rfl ?_))))))))
    exact sn [] h
   ·refine qm rfl (AL rfl (qm rfl ?_))
    refine Dv 14 h rfl (fun h => ?_) fun h => ?_
    ·refine qw 2 rfl (qp rfl (qw 2 rfl (B2 rfl (qp rfl (qp rfl (qe rfl ?_))))))
     exact sn [] h
    ·refine qm rfl (AL rfl (qp rfl (qm rfl ?_)))
     refine Dv 18 h rfl (fun h => ?_) fun h => ?_
     ·refine qm rfl (B2 rfl (qp rfl (qp rfl (qe rfl ?_))))
      exact sn [] h
     ·refine qw 2 rfl (qp rfl (qp rfl (qe rfl ?_)))
      exact sn [] h
 ·obtain rfl := sj h
  refine Ag (sm [] [(4, bD v1)] [] rfl rfl) (Ap ?_)
  exact ⟨⟨[_], tm, rfl⟩, tv⟩
theorem Lp (N : Nat) (p0 : List Bool) (p1 : Int) (r : Bool) (h : Ea N p0 p1 = some r) : Ar zA 115 [pD (.sl (p0.map eB)), oD (.rop [.val (.int .i64 p1)])] [] (bD r) := by
 unfold Ea at h
 refine cw (n := 8) (rs := [.tmp 3]) Tryz.func115 fun w0 S0 => ?_
 refine wq rfl (qa rfl (Ab (wq rfl (qm rfl (AT MJ rfl (qk Bs rfl (Ba rfl (qe rfl ?_))))))))
 obtain rfl := sj h
 refine Ag (sm [] [(3, bD (((p0.length : Int) != p1)))] [] rfl rfl) (Ap ?_)
 exact ⟨⟨[_], tm, rfl⟩, tv⟩
theorem Hr (N : Nat) (p0 : List (List Bool)) (p1 : (List Bool) → Option Bool) (r : Int) (h : C6 N p0 p1 = some r) : Ar zA 124 [pD (.sl (p0.map (O0 eB))), oD (.clo (Iq (LM false (O0 eB)) tB p1))] [] (iD r) := by
 unfold C6 at h
 refine cw (n := 19) (rs := [.tmp 4]) Tryz.func124 fun w0 S0 => ?_
 refine wq rfl (qa rfl (Ab (wp rfl (qm rfl (AT Ie rfl (qm rfl (Ab ?_)))))))
 refine AS (L := BW N p0 p1) h (fun v1 => mk [(0, pD (.sl (p0.map (O0 eB)))), (1, oD (.clo (Iq (LM false (O0 eB)) tB p1))), (7, iD ((p0.length : Int))), (8, iD v1)] []) (fun v2 => mk [] []) (fun _ _ => rfl) (sm [] _ _ rfl rfl) (fun j1 n1 v1 h => ?_) (fun v2 s h hs => ?_)
 ·unfold BW at h
  refine wq rfl (A8 rfl (Ab (AH ?_)))
  refine A0 h (fun h => ?_) fun h => ?_
  ·refine An (AH (AI (wq rfl (qm rfl (qa rfl (Ab (wq rfl (qw 3 rfl ?_))))))))
   refine Cn h fun v4 a4 b4 h => qi Ie Pz a4 (Ao b4) rfl (qk PN rfl ?_)
   refine Be h fun v5 a5 h => Ks (ds0 := [_]) (ar := (LM false (O0 eB)) v4) (.p rfl) rfl rfl ⟨rfl, tv⟩ rfl rfl rfl (KM (KE _ _ (Vh V9)) a5) ?_
   refine Ab ?_
   refine A0 h (fun h => ?_) fun h => ?_
   ·refine wq rfl (qm rfl (qe rfl ?_))
    obtain rfl := sj h
    refine Ag (sm [] [(4, iD v1)] [] rfl rfl) (Ap ?_)
    exact ⟨⟨[_], tm, rfl⟩, tv⟩
   ·refine An (Aj Az rfl (A6 rfl (qm rfl (Ab ?_))))
    exact sn [] h
  ·refine Bg ?_
   exact sn [] h
 ·refine Ag hs (wq rfl (qe rfl ?_))
  obtain rfl := sj h
  refine Ag (sm [] [(4, iD ((-1)))] [] rfl rfl) (Ap ?_)
  exact ⟨⟨[_], tm, rfl⟩, tv⟩
theorem GH (N : Nat) (p0 : List (List Bool)) (p1 : (List Bool) → Option Bool) (r : Bool) (h : CF N p0 p1 = some r) : Ar zA 114 [pD (.sl (p0.map (O0 eB))), oD (.clo (Iq (LM false (O0 eB)) tB p1))] [] (bD r) := by
 unfold CF at h
 refine cw (n := 9) (rs := [.tmp 4]) Tryz.func114 fun w0 S0 => ?_
 refine wq rfl (qa rfl (Ab (wq rfl (qw 2 rfl ?_))))
 refine Be h fun v1 a1 h => Av [] (Hr N p0 p1 v1 a1) UF rfl (EC rfl (qe rfl ?_))
 obtain rfl := sj h
 refine Ag (sm [] [(4, bD ((decide (0 ≤ v1))))] [] rfl rfl) (Ap ?_)
 exact ⟨⟨[_], tm, rfl⟩, tv⟩
theorem Jp (N : Nat) (p0 : List (List Bool)) (p1 : Int) (p2 : Int) (r : Bool) (h : FR N p0 p1 p2 = some r) : Ar zA 90 [pD (.sl (p0.map (O0 eB))), iD p1, iD p2] [] (bD r) := by
 unfold FR at h
 refine cw (n := 17) (rs := [.tmp 6]) Tryz.func90 fun w0 S0 => ?_
 refine wq rfl (qb rfl (qe rfl ?_))
 refine AF h (fun v1 => mk [(6, bD v1)] []) (fun j1 h => ?_) (fun v1 h => ?_)
 ·refine Aj Az rfl (qm rfl (AT Ie rfl (qm rfl (AL rfl (qm rfl ?_)))))
  refine Dv 11 h rfl (fun h => ?_) fun h => ?_
  ·refine qm rfl (Cs (KF 5 [.val (.int .i64 p2)] rfl rfl) ?_)
   refine Kh (capD := [_]) (Iq (LM false (O0 eB)) tB ((fun (x : List Bool) => Ea N x p2))) (.g rfl rfl) UC rfl ⟨rfl, tv⟩ rfl (fun ar t ht => by obtain ⟨x, r, rfl, hq, rfl⟩ := Ix ht; exact Lp N x p2 r hq) ?_
   refine Be h fun v3 a3 h => Av [] (GH N p0 ((fun (x : List Bool) => Ea N x p2)) v3 a3) Vj rfl (B2 rfl (qp rfl (qe rfl ?_)))
   exact sn [] h
  ·refine qw 4 rfl (qp rfl (qe rfl ?_))
   exact sn [] h
 ·obtain rfl := sj h
  refine Ag (sm [] [(6, bD v1)] [] rfl rfl) (Ap ?_)
  exact ⟨⟨[_], tm, rfl⟩, tv⟩
theorem M8 (N : Nat) (p0 : Ad) (p1 : A9) (r : Int) (h : HG N p0 p1 = some r) : Ar zA 64 [.e (.agg (Aw p0)), .e (.agg (Cq p1))] [] (iD r) := by
 unfold HG at h
 refine cw (n := 87) (rs := [.tmp 4]) Tryz.func64 fun w0 S0 => ?_
 refine wq rfl (qb rfl (qb rfl (qa rfl (Ab (wp rfl (qf HM rfl (ql Bs rfl (qf MF rfl (ql TG rfl ?_)))))))))
 refine Be h fun v1 a1 h => Av [] (NT N p1.fw p1.fV v1 a1) V7 rfl (B2 rfl (Ab ?_))
 refine A0 h (fun h => ?_) fun h => ?_
 ·refine wq rfl (qe rfl ?_)
  obtain rfl := sj h
  refine Ag (sm [] [(4, iD 1)] [] rfl rfl) (Ap ?_)
  exact ⟨⟨[_], tm, rfl⟩, tv⟩
 ·refine An (AH ?_)
  refine AF h (fun v3 => mk [(2, oD (.ptr 2 0)), (3, oD (.ptr 3 0)), (29, bD v3)] [(2, .box (Aw p0)), (3, .box (Cq p1))]) (fun j3 h => ?_) (fun v3 h => ?_)
  ·refine Aj Az rfl (qf Gz rfl (ql Bs rfl (qf EK rfl (ql B6 rfl (AT AP rfl ?_)))))
   refine Be h fun v4 a4 h => Av [] (Gu N p1.fF ((p0.fi.length : Int)) v4 a4) Sw rfl (B2 rfl (qm rfl ?_))
   refine Dv 21 h rfl (fun h => ?_) fun h => ?_
   ·refine qw 7 rfl (qp rfl (Ab ?_))
    exact sn [] h
   ·refine qf Mc rfl (ql Bs rfl (qf EK rfl (ql B6 rfl (AT AP rfl ?_))))
    refine Be h fun v6 a6 h => Av [] (Gu N p1.fU ((p0.fi.length : Int)) v6 a6) Sw rfl (B2 rfl (qp rfl (Ab ?_)))
    exact sn [] h
  ·refine A0 h (fun h => ?_) fun h => ?_
   ·refine wq rfl (qe rfl ?_)
    obtain rfl := sj h
    refine Ag (sm [] [(4, iD 4)] [] rfl rfl) (Ap ?_)
    exact ⟨⟨[_], tm, rfl⟩, tv⟩
   ·refine An (wq rfl (qf EK rfl (ql B6 rfl (qf Gz rfl (ql Bs rfl ?_)))))
    refine Cn h fun v8 a8 b8 h => qi AP Dz a8 (Ao b8) rfl (qk Bs rfl (qa rfl (Ab (wq rfl (qf HM rfl (ql Bs rfl (AL rfl (qa rfl (Ab (AH ?_))))))))))
    refine AF h (fun v9 => mk [(3, oD (.ptr 3 0)), (70, bD v9)] [(3, .box (Cq p1))]) (fun j9 h => ?_) (fun v9 h => ?_)
    ·refine Aj Az rfl (qf L7 rfl (ql KA rfl (qm rfl (qf EK rfl (ql B6 rfl (qf Mc rfl (ql Bs rfl ?_)))))))
     refine Cn h fun v10 a10 b10 h => qi AP Dz a10 (Ao b10) rfl (qk Bs rfl ?_)
     refine Be h fun v11 a11 h => Av [] (Jp N p1.fJ v8 v10 v11 a11) UW rfl (B2 rfl (qm rfl ?_))
     refine Dv 50 h rfl (fun h => ?_) fun h => ?_
     ·refine qw 2 rfl (qu rfl (qu rfl (qu rfl (qu rfl (qu rfl (qu rfl (qn rfl (qp rfl (qw 4 rfl (qu rfl (qu rfl (qu rfl (qu rfl (qn rfl (qp rfl (AJ (by kernel_rfl) ?_))))))))))))))))
      exact sn [] h
     ·refine qw 2 rfl ?_
      refine Dv 52 h rfl (fun h => ?_) fun h => ?_
      ·refine qf IH rfl (ql KA rfl (qw 2 rfl ?_))
       refine Be h fun v14 a14 h => Av [] (Jp N p1.fR v8 v8 v14 a14) UW rfl (B2 rfl (qp rfl (qp rfl (qm rfl ?_))))
       refine Dv 61 h rfl (fun h => ?_) fun h => ?_
       ·refine qw 3 rfl (qu rfl (qu rfl (qu rfl (qu rfl (qn rfl (qp rfl (AJ (by kernel_rfl) ?_)))))))
        exact sn [] h
       ·refine qm rfl (B2 rfl (qm rfl ?_))
        refine Dv 64 h rfl (fun h => ?_) fun h => ?_
        ·refine qf IH rfl (ql KA rfl (AT Ie rfl (EA rfl (qp rfl (qp rfl (AJ (by kernel_rfl) ?_))))))
         exact sn [] h
        ·refine qw 4 rfl (qp rfl (qp rfl (AJ (by kernel_rfl) ?_)))
         exact sn [] h
      ·refine qw 6 rfl (qp rfl (qp rfl (qw 2 rfl (B2 rfl (qm rfl ?_)))))
       refine Dv 64 h rfl (fun h => ?_) fun h => ?_
       ·refine qf IH rfl (ql KA rfl (AT Ie rfl (EA rfl (qp rfl (qp rfl (AJ (by kernel_rfl) ?_))))))
        exact sn [] h
       ·refine qw 4 rfl (qp rfl (qp rfl (AJ (by kernel_rfl) ?_)))
        exact sn [] h
    ·refine A0 h (fun h => ?_) fun h => ?_
     ·refine wq rfl (qe rfl ?_)
      obtain rfl := sj h
      refine Ag (sm [] [(4, iD 6)] [] rfl rfl) (Ap ?_)
      exact ⟨⟨[_], tm, rfl⟩, tv⟩
     ·refine An (wp rfl (qf IH rfl (ql KA rfl (AT Ie rfl (qm rfl (Ab ?_))))))
      refine AS (L := EI N p1) h (fun v19 => mk [(3, oD (.ptr 3 0)), (73, iD ((p1.fR.length : Int))), (74, iD v19)] [(3, .box (Cq p1))]) (fun v20 => mk [] []) (fun _ _ => rfl) (sm [] _ _ rfl rfl) (fun j19 n19 v19 h => ?_) (fun v20 s h hs => ?_)
      ·unfold EI at h
       refine wq rfl (A8 rfl (Ab (AH ?_)))
       refine A0 h (fun h => ?_) fun h => ?_
       ·refine An (AH (AI (wq rfl (qm rfl (qa rfl (Ab (wq rfl (qf IH rfl (ql KA rfl (qm rfl ?_))))))))))
        refine Cn h fun v22 a22 b22 h => qi Ie Pz a22 (Ao b22) rfl (qk PN rfl (qm rfl ?_))
        refine Cn h fun v23 a23 b23 h => qi MJ Wj a23 (Ao b23) rfl (qk TG rfl (B2 rfl (Ab ?_)))
        refine A0 h (fun h => ?_) fun h => ?_
        ·refine wq rfl (qe rfl ?_)
         obtain rfl := sj h
         refine Ag (sm [] [(4, iD 1)] [] rfl rfl) (Ap ?_)
         exact ⟨⟨[_], tm, rfl⟩, tv⟩
        ·refine An (Aj Az rfl (A6 rfl (qm rfl (Ab ?_))))
         exact sn [] h
       ·refine Bg ?_
        exact sn [] h
      ·refine Ag hs (wq rfl (qe rfl ?_))
       obtain rfl := sj h
       refine Ag (sm [] [(4, iD 0)] [] rfl rfl) (Ap ?_)
       exact ⟨⟨[_], tm, rfl⟩, tv⟩
theorem D1 (N : Nat) (p0 : Ad) (r : Int) (h : Cd N p0 = some r) : Ar zA 40 [.e (.agg (Aw p0))] [] (iD r) := by
 unfold Cd at h
 refine cw (n := 81) (rs := [.tmp 2]) Tryz.func40 fun w0 S0 => ?_
 refine wq rfl (qb rfl (qa rfl (Ab (wq rfl (qf EK rfl (ql B6 rfl (AT AP rfl (qa rfl (Ab (AH ?_))))))))))
 refine AF h (fun v1 => mk [(1, oD (.ptr 1 0)), (3, iD ((p0.fi.length : Int))), (19, bD v1)] [(1, .box (Aw p0))]) (fun j1 h => ?_) (fun v1 h => ?_)
 ·refine Aj Az rfl (qm rfl (EA rfl (qm rfl ?_)))
  refine Dv 14 h rfl (fun h => ?_) fun h => ?_
  ·refine qw 4 rfl (qp rfl (Ab ?_))
   exact sn [] h
  ·refine qf Gq rfl (ql Mk rfl (AT Hs rfl (EA rfl (qp rfl (Ab ?_)))))
   exact sn [] h
 ·refine A0 h (fun h => ?_) fun h => ?_
  ·refine wq rfl (qe rfl ?_)
   obtain rfl := sj h
   refine Ag (sm [] [(2, iD 3)] [] rfl rfl) (Ap ?_)
   exact ⟨⟨[_], tm, rfl⟩, tv⟩
  ·refine An (AH ?_)
   refine AF h (fun v4 => mk [(1, oD (.ptr 1 0)), (31, bD v4)] [(1, .box (Aw p0))]) (fun j4 h => ?_) (fun v4 h => ?_)
   ·refine Aj Az rfl (qf KO rfl (ql B6 rfl (AT AP rfl (qm rfl (Ba rfl (qm rfl ?_))))))
    refine Dv 25 h rfl (fun h => ?_) fun h => ?_
    ·refine qw 5 rfl (qp rfl (Ab ?_))
     exact sn [] h
    ·refine qf NE rfl (ql B6 rfl (AT AP rfl (qm rfl (Ba rfl (qp rfl (Ab ?_))))))
     exact sn [] h
   ·refine A0 h (fun h => ?_) fun h => ?_
    ·refine wq rfl (qe rfl ?_)
     obtain rfl := sj h
     refine Ag (sm [] [(2, iD 6)] [] rfl rfl) (Ap ?_)
     exact ⟨⟨[_], tm, rfl⟩, tv⟩
    ·refine An (wp rfl (qf EK rfl (ql B6 rfl (AT AP rfl (qm rfl (Ab ?_))))))
     refine AS (L := C2 N p0) h (fun v7 => mk [(1, oD (.ptr 1 0)), (33, pD (.sl (p0.fi.map Aa))), (34, iD ((p0.fi.length : Int))), (35, iD v7)] [(1, .box (Aw p0))]) (fun v8 => mk [(1, oD (.ptr 1 0))] [(1, .box (Aw p0))]) (fun _ _ => rfl) (sm [] _ _ rfl rfl) (fun j7 n7 v7 h => ?_) (fun v8 s h hs => ?_)
     ·unfold C2 at h
      refine wq rfl (A8 rfl (Ab (AH ?_)))
      refine A0 h (fun h => ?_) fun h => ?_
      ·refine An (AH (AI (wq rfl (qm rfl ?_))))
       refine Cn h fun v10 a10 b10 h => qi AP Dz a10 (Ao b10) rfl (qk Bs rfl (qa rfl (qe rfl ?_)))
       refine AF h (fun v11 => mk [(1, oD (.ptr 1 0)), (33, pD (.sl (p0.fi.map Aa))), (34, iD ((p0.fi.length : Int))), (35, iD v7), (65, bD v11)] [(1, .box (Aw p0))]) (fun j11 h => ?_) (fun v11 h => ?_)
       ·refine Aj Az rfl (qm rfl (A8 rfl (qm rfl ?_)))
        refine Dv 42 h rfl (fun h => ?_) fun h => ?_
        ·refine qw 2 rfl (qp rfl (qw 9 rfl (qp rfl (qw 9 rfl (qp rfl (Ab ?_))))))
         exact sn [] h
        ·refine qm rfl (EA rfl (qp rfl (qm rfl ?_)))
         refine Dv 46 h rfl (fun h => ?_) fun h => ?_
         ·refine qw 8 rfl (qp rfl (qw 9 rfl (qp rfl (Ab ?_))))
          exact sn [] h
         ·refine qf KO rfl (ql B6 rfl (qm rfl ?_))
          refine Cn h fun v14 a14 b14 h => qi AP Dz a14 (Ao b14) rfl (qk Bs rfl (qm rfl ?_))
          refine Be h fun v15 a15 h => Av [] (Gu N v14 v10 v15 a15) Sw rfl (B2 rfl (qp rfl (qm rfl ?_)))
          refine Dv 56 h rfl (fun h => ?_) fun h => ?_
          ·refine qw 8 rfl (qp rfl (Ab ?_))
           exact sn [] h
          ·refine qf NE rfl (ql B6 rfl (qm rfl ?_))
           refine Cn h fun v17 a17 b17 h => qi AP Dz a17 (Ao b17) rfl (qk Bs rfl (qm rfl ?_))
           refine Be h fun v18 a18 h => Av [] (Gu N v17 v10 v18 a18) Sw rfl (B2 rfl (qp rfl (Ab ?_)))
           exact sn [] h
       ·refine A0 h (fun h => ?_) fun h => ?_
        ·refine wq rfl (qe rfl ?_)
         obtain rfl := sj h
         refine Ag (sm [] [(2, iD 7)] [] rfl rfl) (Ap ?_)
         exact ⟨⟨[_], tm, rfl⟩, tv⟩
        ·refine An (Aj Az rfl (A6 rfl (qm rfl (Ab ?_))))
         exact sn [] h
      ·refine Bg ?_
       exact sn [] h
     ·refine Ag hs (wp rfl (qf Gq rfl (ql Mk rfl (AT Hs rfl (qm rfl (Ab ?_))))))
      refine AS (L := CS N p0) h (fun v20 => mk [(1, oD (.ptr 1 0)), (68, pD (.sl (p0.fh.map Am))), (69, iD ((p0.fh.length : Int))), (70, iD v20)] [(1, .box (Aw p0))]) (fun v21 => mk [] []) (fun _ _ => rfl) (sm [] _ _ rfl rfl) (fun j20 n20 v20 h => ?_) (fun v21 s h hs => ?_)
      ·unfold CS at h
       refine wq rfl (A8 rfl (Ab (AH ?_)))
       refine A0 h (fun h => ?_) fun h => ?_
       ·refine An (AH (AI (wq rfl ?_)))
        refine Cn h fun v23 a23 b23 h => qi Hs EQ a23 (Ao b23) rfl (qK IG EQ rfl (qz Np rfl (qs EQ rfl (Ab (wq rfl (qL Cp Cm rfl (qL IG EQ rfl ?_)))))))
        refine Be h fun v24 a24 h => Av [] (M8 N p0 v23 v24 a24) VS rfl (qa rfl (Ab (wq rfl (qm rfl (Ba rfl (Ab ?_))))))
        refine A0 h (fun h => ?_) fun h => ?_
        ·refine wq rfl (qm rfl (qe rfl ?_))
         obtain rfl := sj h
         refine Ag (sm [] [(2, iD v24)] [] rfl rfl) (Ap ?_)
         exact ⟨⟨[_], tm, rfl⟩, tv⟩
        ·refine An (Aj Az rfl (A6 rfl (qm rfl (Ab ?_))))
         exact sn [] h
       ·refine Bg ?_
        exact sn [] h
      ·refine Ag hs (wq rfl (qe rfl ?_))
       obtain rfl := sj h
       refine Ag (sm [] [(2, iD 0)] [] rfl rfl) (Ap ?_)
       exact ⟨⟨[_], tm, rfl⟩, tv⟩
theorem BK (N : Nat) (p0 : List Int) (r : (List Int)) (h : Bj N p0 = some r) : Ar zA 41 [pD (.sl (p0.map Aa))] [(1, r.map Aa)] (oD (.own 0)) := by
 unfold Bj at h
 refine cw (n := 8) (rs := [.tmp 2]) Tryz.func41 fun w0 S0 => ?_
 refine wq rfl (qa rfl (Ab (wp rfl (qm rfl ?_))))
 refine NJ (.p rfl) rfl AP ?_
 refine Ab ?_
 refine NP rfl (fun c2 => ?_) ?_
 ·have c2 := List.map_eq_nil_iff.1 c2
  rw [c2] at h
  have h : (some (([] : List Int))) = some r := h
  refine wq rfl (qe rfl ?_)
  obtain rfl := sj h
  refine Ag ((BF 2 2001 1 rfl rfl rfl).trans (sm [(1000, 2001)] [(2, oD (.own 1000))] [(1000, .vec 1 ((([] : List Int)).map Aa))] rfl rfl)) (Ap ?_)
  exact ⟨⟨[_], tm, rfl⟩, ⟨rfl, tv⟩⟩
 ·refine An (wq rfl (FD AP Dz O3 rfl (qm rfl ?_)))
  refine Ge h fun c1 h => Pf (f := Aa) AP AP Dz SN O3 (fun _ => rfl) c1 rfl (qe rfl ?_)
  obtain rfl := sj h
  refine Ag (sm [(1000, 7)] [(2, oD (.own 1000))] [(1000, .vec 1 (((([] : List Int)) ++ p0).map Aa))] rfl rfl) (Ap ?_)
  exact ⟨⟨[_], tm, rfl⟩, ⟨rfl, tv⟩⟩
theorem Kn (N : Nat) (p0 : Int) (p1 : Int) (r : Int × Int) (h : F2 N p0 p1 = some r) : Ar zA 91 [pD (.val (.int .u32 p0)), pD (.val (.int .u32 p1))] [] (.tup [.one (.pure (.val (.int .u32 r.1))), .one (.pure (.val (.int .u32 r.2)))]) := by
 unfold F2 at h
 refine cw (n := 17) (rs := [.tmp 4, .tmp 5]) Tryz.func91 fun w0 S0 => ?_
 refine wq rfl (qa rfl (qa rfl (Ab (wq rfl (qm rfl (Ff OS Ov rfl (qm rfl (Ff OS Ov rfl (Jl rfl (qa rfl (Ab (wq rfl (qm rfl (II rfl (by decide) (Ff SM Nt rfl (qm rfl (Ff SM Nt rfl (qa rfl (qe rfl ?_)))))))))))))))))))
 obtain rfl := sj h
 refine Ag (sm [] [(4, pD (.val (.int .u32 ((wI .u32 ((Eh .u64 ((wI .u64 ((wI .u64 p0) * (wI .u64 p1)))) 32))))))), (5, pD (.val (.int .u32 ((wI .u32 ((wI .u64 ((wI .u64 p0) * (wI .u64 p1)))))))))] [] rfl rfl) (Ap ?_)
 exact ⟨⟨[_, _], ⟨.tmp _ _ rfl, tm⟩, rfl⟩, tv⟩
theorem Ky (N : Nat) (p0 : Int) (p1 : Int) (r : Int × Int) (h : FU N p0 p1 = some r) : Ar zA 92 [pD (.val (.int .u64 p0)), pD (.val (.int .u64 p1))] [] (.tup [.one (.pure (.val (.int .u64 r.1))), .one (.pure (.val (.int .u64 r.2)))]) := by
 unfold FU at h
 refine cw (n := 51) (rs := [.tmp 4, .tmp 5]) Tryz.func92 fun w0 S0 => ?_
 refine wq rfl (qa rfl (qa rfl (Ab (wq rfl (qm rfl (Kw rfl (qa rfl (Ab (wq rfl (qm rfl (II rfl (by decide) (qa rfl (Ab (wq rfl (qm rfl (Kw rfl (qa rfl (Ab (wq rfl (qm rfl (II rfl (by decide) (qa rfl (Ab (wq rfl (qw 2 rfl (Jl rfl (qa rfl (Ab (wq rfl (qw 2 rfl ?_))))))))))))))))))))))))))))))
 refine Jl rfl (qm rfl (II rfl (by decide) (A6 rfl (qa rfl (Ab (wq rfl (qm rfl (Kw rfl (qa rfl (Ab (wq rfl (qm rfl (II rfl (by decide) (qa rfl (Ab (wq rfl (qw 3 rfl (Jl rfl (A6 rfl (qa rfl (Ab (wq rfl (qw 2 rfl (Jl rfl (qm rfl (A6 rfl (qm rfl (II rfl (by decide) (A6 rfl (qa rfl (Ab (AH ?_))))))))))))))))))))))))))))))))
 refine Aj Az rfl (qw 2 rfl (Jl rfl (qe rfl ?_)))
 obtain rfl := sj h
 refine Ag (sm [] [(4, pD (.val (.int .u64 ((wI .u64 ((wI .u64 ((wI .u64 ((Eh .u64 p0 32) * (Eh .u64 p1 32))) + (Eh .u64 ((wI .u64 ((wI .u64 ((Eh .u64 p0 32) * (Hn .u64 p1 4294967295))) + (Eh .u64 ((wI .u64 ((Hn .u64 p0 4294967295) * (Hn .u64 p1 4294967295)))) 32)))) 32))) + (Eh .u64 ((wI .u64 ((Hn .u64 ((wI .u64 ((wI .u64 ((Eh .u64 p0 32) * (Hn .u64 p1 4294967295))) + (Eh .u64 ((wI .u64 ((Hn .u64 p0 4294967295) * (Hn .u64 p1 4294967295)))) 32)))) 4294967295) + (wI .u64 ((Hn .u64 p0 4294967295) * (Eh .u64 p1 32)))))) 32))))))), (5, pD (.val (.int .u64 ((wI .u64 (p0 * p1))))))] [] rfl rfl) (Ap ?_)
 exact ⟨⟨[_, _], ⟨.tmp _ _ rfl, tm⟩, rfl⟩, tv⟩
theorem LU (N : Nat) (p0 : Int) (p1 : Int) (r : Int × Int) (h : GV N p0 p1 = some r) : Ar zA 65 [pD (.val (.int .u64 p0)), pD (.val (.int .u64 p1))] [] (.tup [.one (.pure (.val (.int .u64 r.1))), .one (.pure (.val (.int .u64 r.2)))]) := by
 unfold GV at h
 refine cw (n := 30) (rs := [.tmp 4, .tmp 5]) Tryz.func65 fun w0 S0 => ?_
 refine wq rfl (qa rfl (qa rfl (Ab (AH ?_))))
 refine A0 h (fun h => ?_) fun h => ?_
 ·refine wq rfl (qm rfl (Ff TH Nt rfl (qm rfl (Ff TH Nt rfl ?_))))
  refine Be h fun v2 a2 h => Av [] (Kn N ((wI .u32 p0)) ((wI .u32 p1)) v2 a2) V0 rfl (qm rfl (qx rfl (qx rfl (qa rfl (qa rfl (Ab (wq rfl (qm rfl (Ff OS Sa rfl (qm rfl (Ff OS Sa rfl (qa rfl (qe rfl ?_)))))))))))))
  obtain rfl := sj h
  refine Ag (sm [] [(4, pD (.val (.int .u64 ((wI .u64 v2.1))))), (5, pD (.val (.int .u64 ((wI .u64 v2.2)))))] [] rfl rfl) (Ap ?_)
  exact ⟨⟨[_, _], ⟨.tmp _ _ rfl, tm⟩, rfl⟩, tv⟩
 ·refine An (wq rfl (qw 2 rfl ?_))
  refine Be h fun v3 a3 h => Av [] (Ky N p0 p1 v3 a3) Wr rfl (qm rfl (qx rfl (qx rfl (qa rfl (qa rfl (Ab (wq rfl (qw 2 rfl (qa rfl (qe rfl ?_))))))))))
  obtain rfl := sj h
  refine Ag (sm [] [(4, pD (.val (.int .u64 v3.1))), (5, pD (.val (.int .u64 v3.2)))] [] rfl rfl) (Ap ?_)
  exact ⟨⟨[_, _], ⟨.tmp _ _ rfl, tm⟩, rfl⟩, tv⟩
theorem Iz (N : Nat) (p0 : List Int) (p1 : Int) (r : (List Int)) (h : Ei N p0 p1 = some r) : Ar zA 42 [pD (.sl (p0.map Aa)), iD p1] [(1, r.map Aa)] (oD (.own 0)) := by
 unfold Ei at h
 refine cw (n := 48) (rs := [.tmp 4]) Tryz.func42 fun w0 S0 => ?_
 refine wq rfl (qe rfl ?_)
 refine AF h (fun v1 => mk [(0, pD (.sl (p0.map Aa))), (1, iD p1)] []) (fun j1 h => ?_) (fun v1 h => ?_)
 ·refine wq rfl (qm rfl (A8 rfl (Ab ?_)))
  refine A0 h (fun h => ?_) fun h => ?_
  ·refine Aj Az rfl ?_
   cases h
  ·refine An ?_
   exact sn [] h
 ·refine wq rfl (qm rfl (AT AP rfl (Ff Uk Sa rfl (qm rfl (Ff Uk Sa rfl ?_)))))
  refine Be h fun v3 a3 h => Av [] (LU N ((wI .u64 ((p0.length : Int)))) ((wI .u64 p1)) v3 a3) V3 rfl (qm rfl (qx rfl (qx rfl (qa rfl (qe rfl ?_)))))
  refine AF h (fun v4 => mk [(0, pD (.sl (p0.map Aa))), (6, pD (.val (.int .u64 v3.2)))] []) (fun j4 h => ?_) (fun v4 h => ?_)
  ·refine AF h (fun v5 => mk [(0, pD (.sl (p0.map Aa))), (6, pD (.val (.int .u64 v3.2))), (26, bD v5)] []) (fun j5 h => ?_) (fun v5 h => ?_)
   ·refine Aj Az rfl (qm rfl (EA rfl (qm rfl ?_)))
    refine Dv 23 h rfl (fun h => ?_) fun h => ?_
    ·refine qw 2 rfl (qp rfl (Ab ?_))
     exact sn [] h
    ·refine qm rfl (EA rfl (qp rfl (Ab ?_)))
     exact sn [] h
   ·refine A0 h (fun h => ?_) fun h => ?_
    ·refine Aj Az rfl ?_
     cases h
    ·refine An ?_
     exact sn [] h
  ·refine wq rfl (qm rfl (Ff TH Vx rfl ?_))
   refine Ge h fun c8 h => Jv (.p rfl) rfl rfl rfl AP Dz SN (Da rfl) O3 rfl rfl rfl c8.1 c8.2.1 c8.2.2 (Nu Aa _ ((0 : Int))) ?_
   refine qa rfl (Ab (wq rfl (qw 2 rfl ?_)))
   refine PF Aa (zK ((wI .i64 v3.2)).toNat ((0 : Int))) p0 (.p rfl) rfl (JD Aa _ _ (zK ((wI .i64 v3.2)).toNat ((0 : Int)))) rfl rfl (So Aa _ _ (fun _ => rfl)) tv AP Dz ?_
   refine qa rfl (Ab (AH ?_))
   refine AS (L := Cu N) h (fun v9 => mk [(7, oD (.own 2001)), (8, iD v9.2)] [(2001, .vec 1 (v9.1.map Aa))]) (fun v10 => mk [(7, oD (.own 2002))] [(2002, .vec 1 (v10.map Aa))]) (fun _ _ => rfl) (sm [(2001, 30)] _ _ rfl rfl) (fun j9 n9 v9 h => ?_) (fun v10 s h hs => ?_)
   ·unfold Cu at h
    refine wp rfl (qw 2 rfl (Iv AP rfl (A8 rfl (Ab ?_))))
    refine A0 h (fun h => ?_) fun h => ?_
    ·refine An (AI (Aj Az rfl (qw 3 rfl ?_)))
     obtain ⟨c12, h⟩ := Hd h
     have w13 : ((v9.2).toNat) + ((v9.1.length - (v9.2).toNat)) ≤ v9.1.length := by have := c12.2.1; have := c12.2.2; omega
     refine KX Aa v9.1 (.p rfl) rfl (JD Aa _ _ v9.1) rfl AP Dz (.some _ _ _ _ c12.1) (.none _) ⟨rfl, tv⟩ tv c12.2.1 (by rw [zH]; exact c12.2.2) (zH _) rfl ?_
     refine qw 2 rfl ?_
     obtain ⟨c14, h⟩ := Hd h
     have w15 : 0 + ((v9.2).toNat) ≤ v9.1.length := by have := c14.2.1; have := c14.2.2; omega
     refine KX Aa v9.1 (.p rfl) rfl (JD Aa _ _ v9.1) rfl AP Dz (.none _) (.some _ _ _ _ c14.1) tv ⟨rfl, tv⟩ c14.2.1 (by rw [zH]; exact c14.2.2) (zH _) rfl ?_
     refine PF Aa v9.1 (((v9.1.drop 0).take ((v9.2).toNat))) (.p rfl) rfl (Nj Aa _ _ ((v9.2).toNat) ((v9.1.length - (v9.2).toNat)) v9.1 w13) rfl rfl (Qk Aa _ _ 0 ((v9.2).toNat) v9.1 w15) ⟨rfl, tv⟩ AP Dz ?_
     refine A6 rfl (qa rfl (AJ (by kernel_rfl) ?_))
     exact sn [] h
    ·refine Bg ?_
     exact sn [(2002, 2001)] h
   ·refine Ag hs (wq rfl (qm rfl (qe rfl ?_)))
    obtain rfl := sj h
    refine Ag (sm [(1000, 2002)] [(4, oD (.own 1000))] [(1000, .vec 1 (v10.map Aa))] rfl rfl) (Ap ?_)
    exact ⟨⟨[_], tm, rfl⟩, ⟨rfl, tv⟩⟩
theorem I2 (N : Nat) (p0 : A9) (r : Bool) (h : FF N p0 = some r) : Ar zA 43 [.e (.agg (Cq p0))] [] (bD r) := by
 unfold FF at h
 refine cw (n := 11) (rs := [.tmp 2]) Tryz.func43 fun w0 S0 => ?_
 refine wq rfl (qb rfl (qe rfl ?_))
 refine AF h (fun v1 => mk [(2, bD v1)] []) (fun j1 h => ?_) (fun v1 h => ?_)
 ·refine Aj Az rfl (qf HM rfl (ql Bs rfl (AL rfl (qm rfl ?_))))
  refine Dv 6 h rfl (fun h => ?_) fun h => ?_
  ·refine qw 3 rfl (qp rfl (qe rfl ?_))
   exact sn [] h
  ·refine qf HM rfl (ql Bs rfl (AL rfl (qp rfl (qe rfl ?_))))
   exact sn [] h
 ·obtain rfl := sj h
  refine Ag (sm [] [(2, bD v1)] [] rfl rfl) (Ap ?_)
  exact ⟨⟨[_], tm, rfl⟩, tv⟩
theorem H8 (N : Nat) (p0 : Ad) (r : Ai × Int) (h : Fm N p0 = some r) : Ar zA 27 [.e (.agg (Aw p0))] [(1, r.1.ff.map Aa), (1, r.1.fd.map Aa), (1, r.1.fg.map Bd)] (.tup [.agg [.own 0, .own 1, .own 2], .one (iC r.2)]) := by
 unfold Fm at h
 refine cw (n := 50) (rs := [.cell 2 52, .tmp 3]) Tryz.func27 fun w0 S0 => ?_
 refine wq rfl (qb rfl (qz C4 rfl (qa rfl (Ab (wp rfl (qL Cp Cm rfl ?_))))))
 refine Be h fun v1 a1 h => Av [] (D1 N p0 v1 a1) Sf rfl (qa rfl (Ab (wq rfl (qm rfl (Ba rfl (Ab ?_))))))
 refine A0 h (fun h => ?_) fun h => ?_
 ·refine wq rfl (AG C4 Jo rfl (qm rfl (qs AO rfl (qe rfl ?_))))
  obtain rfl := sj h
  refine Ag ((AZ 2 0 2001 1 _ rfl rfl rfl rfl).trans ((AZ 2 1 2002 1 _ rfl rfl rfl rfl).trans ((AZ 2 2 2003 1 _ rfl rfl rfl rfl).trans (sm [(1000, 2001), (1001, 2002), (1002, 2003)] [(2, oD (.ptr 2 0)), (3, iD v1)] [(2, .box [.own 1000, .own 1001, .own 1002]), (1000, .vec 1 ((([] : List Int)).map Aa)), (1001, .vec 1 ((([] : List Int)).map Aa)), (1002, .vec 1 ((([] : List Int)).map Bd))] rfl rfl)))) (Ap ?_)
  exact ⟨⟨[_, _], ⟨.cellN _ _ _ _ _ _ _ rfl rfl Bq AO rfl rfl (EU rfl), tm⟩, rfl⟩, ⟨rfl, rfl, rfl, tv⟩⟩
 ·refine An (wq rfl (qf KO rfl (ql B6 rfl ?_)))
  refine Be h fun v3 a3 h => Av [2004] (BK N p0.fm v3 a3) Pl rfl (FD AP Dz O3 rfl (qf KO rfl (ql B6 rfl (AT AP rfl ?_))))
  refine Be h fun v4 a4 h => FM [2005] [17] (Iz N (([(-1)] : List Int)) ((p0.fm.length : Int)) v4 a4) Wl (FZ (fun _ => rfl) DW) rfl (qf Gq rfl (ql Mk rfl (AT Hs rfl ?_)))
  refine Ge h fun c5 h => Jv (.p rfl) rfl rfl rfl EY GK Rk (Da rfl) RD rfl rfl rfl c5.1 c5.2.1 c5.2.2 (Nu Bd _ ((0 : Int))) ?_
  refine AG C4 Jo rfl (qz C4 rfl (qs AO rfl (AJ (by kernel_rfl) (wp rfl (qf Gq rfl (ql Mk rfl (AT Hs rfl (qm rfl (Ab ?_)))))))))
  refine AS (L := FN N p0) h (fun v6 => mk [(1, oD (.ptr 1 0)), (2, oD (.ptr 2 0)), (5, oD (.ptr 5 0)), (28, pD (.sl (p0.fh.map Am))), (29, iD ((p0.fh.length : Int))), (30, iD v6.2)] [(1, .box (Aw p0)), (2, .box [.pure (.nil0), .pure (.nil0), .pure (.nil0)]), (5, .box [.own 2006, .own 2007, .own 2008]), (2006, .vec 1 (v3.map Aa)), (2007, .vec 1 (v4.map Aa)), (2008, .vec 1 (v6.1.map Bd))]) (fun v7 => mk [(2, oD (.ptr 2 0)), (5, oD (.ptr 5 0))] [(2, .box [.pure (.nil0), .pure (.nil0), .pure (.nil0)]), (5, .box [.own 2009, .own 2010, .own 2011]), (2009, .vec 1 (v3.map Aa)), (2010, .vec 1 (v4.map Aa)), (2011, .vec 1 (v7.map Bd))]) (fun _ _ => rfl) (sm [(2006, 2004), (2007, 2005), (2008, 25)] _ _ rfl rfl) (fun j6 n6 v6 h => ?_) (fun v7 s h hs => ?_)
  ·unfold FN at h
   refine wq rfl (A8 rfl (Ab (AH ?_)))
   refine A0 h (fun h => ?_) fun h => ?_
   ·refine An ?_
    refine AF h (fun v9 => mk [(1, oD (.ptr 1 0)), (2, oD (.ptr 2 0)), (5, oD (.ptr 5 0)), (28, pD (.sl (p0.fh.map Am))), (29, iD ((p0.fh.length : Int))), (30, iD v6.2)] [(1, .box (Aw p0)), (2, .box [.pure (.nil0), .pure (.nil0), .pure (.nil0)]), (5, .box [.own 2012, .own 2013, .own 2014]), (2012, .vec 1 (v3.map Aa)), (2013, .vec 1 (v4.map Aa)), (2014, .vec 1 (v9.map Bd))]) (fun j9 h => ?_) (fun v9 h => ?_)
    ·refine AI (wq rfl (qm rfl ?_))
     refine Cn h fun v10 a10 b10 h => qi Hs EQ a10 (Ao b10) rfl (qK IG EQ rfl (qz Np rfl (qa rfl (qs EQ rfl (Ab (wq rfl (qL IG EQ rfl ?_)))))))
     refine Be h fun v11 a11 h => Av [] (I2 N v10 v11 a11) T8 rfl (Ab ?_)
     refine A0 h (fun h => ?_) fun h => ?_
     ·refine Aj Az rfl (qf Eq rfl (ql JV rfl (qm rfl (qf KO rfl (ql B6 rfl (qf Gz rfl (ql Bs rfl ?_)))))))
      refine Cn h fun v13 a13 b13 h => qi AP Dz a13 (Ao b13) rfl (qk Bs rfl ?_)
      refine Ge h fun c14 h => IA rfl c14 ?_
      refine Cn h fun v15 a15 b15 h => qI EY GK a15 (Ao b15) rfl ?_
      refine ER rfl rfl rfl rfl (Ao b15) rfl GK rfl (Da rfl) (EB Bd v6.1 _ ((GI .u8 1 v13))) ?_
      refine AJ (by kernel_rfl) ?_
      exact sn [(2012, 2006), (2013, 2007), (2014, 2008)] h
     ·refine An ?_
      exact sn [(2012, 2006), (2013, 2007), (2014, 2008)] h
    ·refine Aj Az rfl (A6 rfl (qm rfl (Ab ?_)))
     exact sn [(2006, 2012), (2007, 2013), (2008, 2014)] h
   ·refine Bg ?_
    exact sn [(2009, 2006), (2010, 2007), (2011, 2008)] h
  ·refine Ag hs (wq rfl (qL Bq AO rfl (qs AO rfl (qe rfl ?_))))
   obtain rfl := sj h
   refine Ag (sm [(1000, 2009), (1001, 2010), (1002, 2011)] [(2, oD (.ptr 2 0)), (3, iD 0)] [(2, .box [.own 1000, .own 1001, .own 1002]), (1000, .vec 1 (v3.map Aa)), (1001, .vec 1 (v4.map Aa)), (1002, .vec 1 (v7.map Bd))] rfl rfl) (Ap ?_)
   exact ⟨⟨[_, _], ⟨.cellN _ _ _ _ _ _ _ rfl rfl Bq AO rfl rfl (EU rfl), tm⟩, rfl⟩, ⟨rfl, rfl, rfl, tv⟩⟩
theorem If (N : Nat) (p0 : Ai) (p1 : Int) (r : Int) (h : Fa N p0 p1 = some r) : Ar zA 100 [.e (.agg (AR p0)), iD p1] [] (pD (.val (.int .u8 r))) := by
 unfold Fa at h
 refine cw (n := 27) (rs := [.tmp 4]) Tryz.func100 fun w0 S0 => ?_
 refine wq rfl (qb rfl (qa rfl (Ab (wq rfl (qf Dn rfl (ql B6 rfl (qm rfl ?_)))))))
 refine Cn h fun v1 a1 b1 h => qi AP Dz a1 (Ao b1) rfl (qk Bs rfl ?_)
 refine Ge h fun c2 h => IA rfl c2 (qe rfl ?_)
 refine AF h (fun v3 => mk [(5, pD (.val (.int .u8 v3)))] []) (fun j3 h => ?_) (fun v3 h => ?_)
 ·refine wq rfl (qf CP rfl (ql B6 rfl (qm rfl ?_)))
  refine Cn h fun v4 a4 b4 h => qi AP Dz a4 (Ao b4) rfl (qk Bs rfl (EC rfl (Ab ?_)))
  refine A0 h (fun h => ?_) fun h => ?_
  ·refine Aj Az rfl (qm rfl (qf CP rfl (ql B6 rfl (qm rfl ?_))))
   refine Cn h fun v6 a6 b6 h => qi AP Dz a6 (Ao b6) rfl (qk Bs rfl ?_)
   refine Ge h fun c7 h => IA rfl c7 (Ok rfl (qe rfl ?_))
   exact sn [] h
  ·refine An ?_
   exact sn [] h
 ·refine wq rfl (qm rfl (qe rfl ?_))
  obtain rfl := sj h
  refine Ag (sm [] [(4, pD (.val (.int .u8 v3)))] [] rfl rfl) (Ap ?_)
  exact ⟨⟨[_], tm, rfl⟩, tv⟩
theorem Hi (N : Nat) (p0 : Ad) (p1 : Ai) (r : Int) (h : EH N p0 p1 = some r) : Ar zA 70 [.e (.agg (Aw p0)), .e (.agg (AR p1))] [] (iD r) := by
 unfold EH at h
 refine cw (n := 135) (rs := [.tmp 4]) Tryz.func70 fun w0 S0 => ?_
 refine wq rfl (qb rfl (qb rfl (qa rfl (Ab (wp rfl (qL Cp Cm rfl ?_))))))
 refine Be h fun v1 a1 h => Av [] (D1 N p0 v1 a1) Sf rfl (qa rfl (Ab (wq rfl (qm rfl (Ba rfl (Ab ?_))))))
 refine A0 h (fun h => ?_) fun h => ?_
 ·refine wq rfl (qm rfl (qe rfl ?_))
  obtain rfl := sj h
  refine Ag (sm [] [(4, iD v1)] [] rfl rfl) (Ap ?_)
  exact ⟨⟨[_], tm, rfl⟩, tv⟩
 ·refine An (AH ?_)
  refine AF h (fun v3 => mk [(2, oD (.ptr 2 0)), (3, oD (.ptr 3 0)), (41, bD v3)] [(2, .box (Aw p0)), (3, .box (AR p1))]) (fun j3 h => ?_) (fun v3 h => ?_)
  ·refine Aj Az rfl (qf Dn rfl (ql B6 rfl (AT AP rfl (qf EK rfl (ql B6 rfl (AT AP rfl (Ba rfl (qm rfl ?_))))))))
   refine Dv 24 h rfl (fun h => ?_) fun h => ?_
   ·refine qw 7 rfl (qp rfl (qw 8 rfl (qp rfl (Ab ?_))))
    exact sn [] h
   ·refine qf CP rfl (ql B6 rfl (AT AP rfl (qf EK rfl (ql B6 rfl (AT AP rfl (Ba rfl (qp rfl (qm rfl ?_))))))))
    refine Dv 33 h rfl (fun h => ?_) fun h => ?_
    ·refine qw 7 rfl (qp rfl (Ab ?_))
     exact sn [] h
    ·refine qf Eq rfl (ql JV rfl (AT EY rfl (qf Gq rfl (ql Mk rfl (AT Hs rfl (Ba rfl (qp rfl (Ab ?_))))))))
     exact sn [] h
  ·refine A0 h (fun h => ?_) fun h => ?_
   ·refine wq rfl (qe rfl ?_)
    obtain rfl := sj h
    refine Ag (sm [] [(4, iD 6)] [] rfl rfl) (Ap ?_)
    exact ⟨⟨[_], tm, rfl⟩, tv⟩
   ·refine An (wp rfl (qf EK rfl (ql B6 rfl (AT AP rfl (qm rfl (Ab ?_))))))
    refine AS (L := FI N p0 p1) h (fun v7 => mk [(2, oD (.ptr 2 0)), (3, oD (.ptr 3 0)), (43, pD (.sl (p0.fi.map Aa))), (44, iD ((p0.fi.length : Int))), (45, iD v7)] [(2, .box (Aw p0)), (3, .box (AR p1))]) (fun v8 => mk [(2, oD (.ptr 2 0)), (3, oD (.ptr 3 0))] [(2, .box (Aw p0)), (3, .box (AR p1))]) (fun _ _ => rfl) (sm [] _ _ rfl rfl) (fun j7 n7 v7 h => ?_) (fun v8 s h hs => ?_)
    ·unfold FI at h
     refine wq rfl (A8 rfl (Ab (AH ?_)))
     refine A0 h (fun h => ?_) fun h => ?_
     ·refine An (AH (AI (wq rfl (qm rfl ?_))))
      refine Cn h fun v10 a10 b10 h => qi AP Dz a10 (Ao b10) rfl (qk Bs rfl (qa rfl (qa rfl (Ab (AH ?_)))))
      refine AF h (fun v11 => mk [(2, oD (.ptr 2 0)), (3, oD (.ptr 3 0)), (6, iD v7), (43, pD (.sl (p0.fi.map Aa))), (44, iD ((p0.fi.length : Int))), (45, iD v7), (81, bD v11)] [(2, .box (Aw p0)), (3, .box (AR p1))]) (fun j11 h => ?_) (fun v11 h => ?_)
      ·refine Aj Az rfl (qf Dn rfl (ql B6 rfl (qm rfl ?_)))
       refine Cn h fun v12 a12 b12 h => qi AP Dz a12 (Ao b12) rfl (qk Bs rfl (A8 rfl (qm rfl ?_)))
       refine Dv 56 h rfl (fun h => ?_) fun h => ?_
       ·refine qw 7 rfl (qp rfl (qw 7 rfl (qp rfl (qw 8 rfl (qp rfl (Ab ?_))))))
        exact sn [] h
       ·refine qf Dn rfl (ql B6 rfl (qm rfl ?_))
        refine Cn h fun v14 a14 b14 h => qi AP Dz a14 (Ao b14) rfl (qk Bs rfl (qm rfl (EC rfl (qp rfl (qm rfl ?_)))))
        refine Dv 65 h rfl (fun h => ?_) fun h => ?_
        ·refine qw 6 rfl (qp rfl (qw 8 rfl (qp rfl (Ab ?_))))
         exact sn [] h
        ·refine qf CP rfl (ql B6 rfl (qm rfl ?_))
         refine Cn h fun v16 a16 b16 h => qi AP Dz a16 (Ao b16) rfl (qk Bs rfl (A8 rfl (qp rfl (qm rfl ?_))))
         refine Dv 73 h rfl (fun h => ?_) fun h => ?_
         ·refine qw 7 rfl (qp rfl (Ab ?_))
          exact sn [] h
         ·refine qf CP rfl (ql B6 rfl (qm rfl ?_))
          refine Cn h fun v18 a18 b18 h => qi AP Dz a18 (Ao b18) rfl (qk Bs rfl (qm rfl (EC rfl (qp rfl (Ab ?_)))))
          exact sn [] h
      ·refine A0 h (fun h => ?_) fun h => ?_
       ·refine wq rfl (qe rfl ?_)
        obtain rfl := sj h
        refine Ag (sm [] [(4, iD 7)] [] rfl rfl) (Ap ?_)
        exact ⟨⟨[_], tm, rfl⟩, tv⟩
       ·refine An (wq rfl (qf Dn rfl (ql B6 rfl (qm rfl ?_))))
        refine Cn h fun v20 a20 b20 h => qi AP Dz a20 (Ao b20) rfl (qk Bs rfl (qf CP rfl (ql B6 rfl (qm rfl ?_))))
        refine Cn h fun v21 a21 b21 h => qi AP Dz a21 (Ao b21) rfl (qk Bs rfl (AL rfl (AJ (by kernel_rfl) ?_)))
        refine A0 h (fun h => ?_) fun h => ?_
        ·refine wq rfl (qe rfl ?_)
         obtain rfl := sj h
         refine Ag (sm [] [(4, iD 1)] [] rfl rfl) (Ap ?_)
         exact ⟨⟨[_], tm, rfl⟩, tv⟩
        ·refine An (Aj Az rfl (A6 rfl (qm rfl (Ab ?_))))
         exact sn [] h
     ·refine Bg ?_
      exact sn [] h
    ·refine Ag hs (wp rfl (qf Gq rfl (ql Mk rfl (AT Hs rfl (qm rfl (Ab ?_))))))
     refine AS (L := Fs N p0 p1) h (fun v23 => mk [(2, oD (.ptr 2 0)), (3, oD (.ptr 3 0)), (95, pD (.sl (p0.fh.map Am))), (96, iD ((p0.fh.length : Int))), (97, iD v23)] [(2, .box (Aw p0)), (3, .box (AR p1))]) (fun v24 => mk [] []) (fun _ _ => rfl) (sm [] _ _ rfl rfl) (fun j23 n23 v23 h => ?_) (fun v24 s h hs => ?_)
     ·unfold Fs at h
      refine wq rfl (A8 rfl (Ab (AH ?_)))
      refine A0 h (fun h => ?_) fun h => ?_
      ·refine An (AH (AI (wq rfl (qm rfl ?_))))
       refine Cn h fun v26 a26 b26 h => qi Hs EQ a26 (Ao b26) rfl (qK IG EQ rfl (qz Np rfl (qa rfl (qs EQ rfl (Ab (wq rfl (qa rfl (qe rfl ?_))))))))
       refine AF h (fun v27 => mk [(2, oD (.ptr 2 0)), (3, oD (.ptr 3 0)), (8, iD v23), (10, pD (.val (.int .u8 v27.1))), (11, pD (.val (.int .u8 v27.2))), (95, pD (.sl (p0.fh.map Am))), (96, iD ((p0.fh.length : Int))), (97, iD v23)] [(2, .box (Aw p0)), (3, .box (AR p1))]) (fun j27 h => ?_) (fun v27 h => ?_)
       ·refine wq rfl (qL IG EQ rfl ?_)
        refine Be h fun v28 a28 h => Av [] (I2 N v26 v28 a28) T8 rfl (Ab ?_)
        refine A0 h (fun h => ?_) fun h => ?_
        ·refine Aj Az rfl (qL Bq AO rfl (qf Gz rfl (ql Bs rfl ?_)))
         refine Be h fun v30 a30 h => Av [] (If N p1 v26.fF v30 a30) RH rfl (qf EK rfl (ql B6 rfl (qf Gz rfl (ql Bs rfl ?_))))
         refine Cn h fun v31 a31 b31 h => qi AP Dz a31 (Ao b31) rfl (qk Bs rfl ?_)
         refine Ge h fun c32 h => IA rfl c32 (J5 rfl (qa rfl (qa rfl (AJ (by kernel_rfl) ?_))))
         exact sn [] h
        ·refine An ?_
         exact sn [] h
       ·refine AF h (fun v33 => mk [(2, oD (.ptr 2 0)), (3, oD (.ptr 3 0)), (95, pD (.sl (p0.fh.map Am))), (96, iD ((p0.fh.length : Int))), (97, iD v23), (133, bD v33)] [(2, .box (Aw p0)), (3, .box (AR p1))]) (fun j33 h => ?_) (fun v33 h => ?_)
        ·refine Aj Az rfl (qm rfl (qf Eq rfl (ql JV rfl (qm rfl ?_))))
         refine Cn h fun v34 a34 b34 h => qi EY GK a34 (Ao b34) rfl (qk KC rfl (L9 rfl (Ba rfl (qm rfl ?_))))
         refine Dv 124 h rfl (fun h => ?_) fun h => ?_
         ·refine qw 8 rfl (qp rfl (Ab ?_))
          exact sn [] h
         ·refine qf Eq rfl (ql JV rfl (qm rfl ?_))
          refine Cn h fun v36 a36 b36 h => qi EY GK a36 (Ao b36) rfl (qk KC rfl (qm rfl (L9 rfl (Ba rfl (qp rfl (Ab ?_))))))
          exact sn [] h
        ·refine A0 h (fun h => ?_) fun h => ?_
         ·refine wq rfl (qe rfl ?_)
          obtain rfl := sj h
          refine Ag (sm [] [(4, iD 1)] [] rfl rfl) (Ap ?_)
          exact ⟨⟨[_], tm, rfl⟩, tv⟩
         ·refine An (Aj Az rfl (A6 rfl (qm rfl (Ab ?_))))
          exact sn [] h
      ·refine Bg ?_
       exact sn [] h
     ·refine Ag hs (wq rfl (qe rfl ?_))
      obtain rfl := sj h
      refine Ag (sm [] [(4, iD 0)] [] rfl rfl) (Ap ?_)
      exact ⟨⟨[_], tm, rfl⟩, tv⟩
theorem CY (N : Nat) (p0 : List Int) (r : (List Int)) (h : BA N p0 = some r) : Ar zA 76 [pD (.sl (p0.map Bd))] [(1, r.map Bd)] (oD (.own 0)) := by
 unfold BA at h
 refine cw (n := 8) (rs := [.tmp 2]) Tryz.func76 fun w0 S0 => ?_
 refine wq rfl (qa rfl (Ab (wp rfl (qm rfl ?_))))
 refine NJ (.p rfl) rfl EY ?_
 refine Ab ?_
 refine NP rfl (fun c2 => ?_) ?_
 ·have c2 := List.map_eq_nil_iff.1 c2
  rw [c2] at h
  have h : (some (([] : List Int))) = some r := h
  refine wq rfl (qe rfl ?_)
  obtain rfl := sj h
  refine Ag ((BF 2 2001 1 rfl rfl rfl).trans (sm [(1000, 2001)] [(2, oD (.own 1000))] [(1000, .vec 1 ((([] : List Int)).map Bd))] rfl rfl)) (Ap ?_)
  exact ⟨⟨[_], tm, rfl⟩, ⟨rfl, tv⟩⟩
 ·refine An (wq rfl (FD EY GK RD rfl (qm rfl ?_)))
  refine Ge h fun c1 h => Pf (f := Bd) EY EY GK Rk RD (fun _ => rfl) c1 rfl (qe rfl ?_)
  obtain rfl := sj h
  refine Ag (sm [(1000, 7)] [(2, oD (.own 1000))] [(1000, .vec 1 (((([] : List Int)) ++ p0).map Bd))] rfl rfl) (Ap ?_)
  exact ⟨⟨[_], tm, rfl⟩, ⟨rfl, tv⟩⟩
theorem NZ (N : Nat) (p0 : Ad) (p1 : Ai) (r : (List Ai) × Int) (h : Ij N p0 p1 = some r) : Ar zA 93 [.e (.agg (Aw p0)), .e (.agg (AR p1))] [(3, r.1.map CR)] (.tup [.one (.own 0), .one (iC r.2)]) := by
 unfold Ij at h
 refine cw (n := 75) (rs := [.tmp 4, .tmp 5]) Tryz.func93 fun w0 S0 => ?_
 refine wq rfl (qb rfl (qb rfl (qa rfl (qa rfl (Ab (wp rfl (qL Cp Cm rfl (qL Bq AO rfl ?_))))))))
 refine Be h fun v1 a1 h => Av [] (Hi N p0 p1 v1 a1) Q4 rfl (qa rfl (Ab (wq rfl (qm rfl (Ba rfl (Ab ?_))))))
 refine A0 h (fun h => ?_) fun h => ?_
 ·refine wq rfl (qm rfl (qa rfl (qe rfl ?_)))
  obtain rfl := sj h
  refine Ag ((BF 4 2001 3 rfl rfl rfl).trans (sm [(1000, 2001)] [(4, oD (.own 1000)), (5, iD v1)] [(1000, .vec 3 ((([] : List Ai)).map CR))] rfl rfl)) (Ap ?_)
  exact ⟨⟨[_, _], ⟨.tmp _ _ rfl, tm⟩, rfl⟩, ⟨rfl, tv⟩⟩
 ·refine An (wq rfl (qa rfl (Ab (wp rfl (qf CP rfl (ql B6 rfl (AT AP rfl (qm rfl (Ab ?_)))))))))
  refine AS (L := Fo N p1) h (fun v3 => mk [(3, oD (.ptr 3 0)), (7, oD (.own 2002)), (22, pD (.sl (p1.fd.map Aa))), (23, iD ((p1.fd.length : Int))), (24, iD v3.2)] [(3, .box (AR p1)), (2002, .vec 1 (v3.1.map Aa))]) (fun v4 => mk [(3, oD (.ptr 3 0)), (7, oD (.own 2003))] [(3, .box (AR p1)), (2003, .vec 1 (v4.map Aa))]) (fun _ _ => rfl) ((BF 7 2005 1 rfl rfl rfl).trans (sm [(2002, 2005)] _ _ rfl rfl)) (fun j3 n3 v3 h => ?_) (fun v4 s h hs => ?_)
  ·unfold Fo at h
   refine wq rfl (A8 rfl (Ab (AH ?_)))
   refine A0 h (fun h => ?_) fun h => ?_
   ·refine An ?_
    refine AF h (fun v6 => mk [(3, oD (.ptr 3 0)), (7, oD (.own 2004)), (22, pD (.sl (p1.fd.map Aa))), (23, iD ((p1.fd.length : Int))), (24, iD v3.2)] [(3, .box (AR p1)), (2004, .vec 1 (v6.map Aa))]) (fun j6 h => ?_) (fun v6 h => ?_)
    ·refine AI (wq rfl (qm rfl ?_))
     refine Cn h fun v7 a7 b7 h => qi AP Dz a7 (Ao b7) rfl (qk Bs rfl (qa rfl (qa rfl (Ab (wq rfl (qm rfl (EC rfl (Ab ?_))))))))
     refine A0 h (fun h => ?_) fun h => ?_
     ·refine Aj Az rfl (qw 2 rfl (FD AP Dz O3 rfl ?_))
      refine Ge h fun c9 h => G1 (f := Aa) AP AP Dz SN O3 c9 rfl (qe rfl ?_)
      exact sn [(2004, 34)] h
     ·refine An ?_
      exact sn [(2004, 2002)] h
    ·refine Aj Az rfl (A6 rfl (qm rfl (Ab ?_)))
     exact sn [(2002, 2004)] h
   ·refine Bg ?_
    exact sn [(2003, 2002)] h
  ·refine Ag hs (wq rfl (qa rfl (Ab (wp rfl (qm rfl (Iv AP rfl ?_))))))
   refine Ge h fun c10 h => IA rfl c10 (qm rfl (Ab ?_))
   refine AS (L := E3 N p1 v4) h (fun v11 => mk [(3, oD (.ptr 3 0)), (7, oD (.own 2006)), (10, oD (.own 2007)), (38, iD ((GI .i64 1 ((v4.length : Int))))), (39, iD v11.2)] [(3, .box (AR p1)), (2006, .vec 1 (v4.map Aa)), (2007, .vec 3 (v11.1.map CR))]) (fun v12 => mk [(10, oD (.own 2008))] [(2008, .vec 3 (v12.map CR))]) (fun _ _ => rfl) ((BF 10 2027 3 rfl rfl rfl).trans (sm [(2006, 2003), (2007, 2027)] _ _ rfl rfl)) (fun j11 n11 v11 h => ?_) (fun v12 s h hs => ?_)
   ·unfold E3 at h
    refine wq rfl (A8 rfl (Ab (AH ?_)))
    refine A0 h (fun h => ?_) fun h => ?_
    ·refine An (AH (AI (wq rfl (qm rfl (qa rfl (Ab (wq rfl (qf Dn rfl (ql B6 rfl ?_)))))))))
     refine Be h fun v14 a14 h => Av [2009] (BK N p1.ff v14 a14) Pl rfl (qf CP rfl (ql B6 rfl ?_))
     refine Be h fun v15 a15 h => Av [2010] (BK N p1.fd v15 a15) Pl rfl (qf Eq rfl (ql JV rfl ?_))
     refine Be h fun v16 a16 h => Av [2011] (CY N p1.fg v16 a16) TT rfl (AG C4 Jo rfl (qz C4 rfl (qs AO rfl (AJ (by kernel_rfl) (wp rfl (qm rfl (Iv AP rfl (qm rfl (Ab ?_)))))))))
     refine AS (L := EZ N v4 v11) h (fun v17 => mk [(3, oD (.ptr 3 0)), (7, oD (.own 2015)), (10, oD (.own 2016)), (11, iD v11.2), (12, oD (.ptr 12 0)), (38, iD ((GI .i64 1 ((v4.length : Int))))), (39, iD v11.2), (52, oD (.own 2015)), (53, iD ((v4.length : Int))), (54, iD v17.2)] [(3, .box (AR p1)), (12, .box [.own 2012, .own 2013, .own 2014]), (2012, .vec 1 (v14.map Aa)), (2013, .vec 1 (v17.1.map Aa)), (2014, .vec 1 (v16.map Bd)), (2015, .vec 1 (v4.map Aa)), (2016, .vec 3 (v11.1.map CR))]) (fun v18 => mk [(3, oD (.ptr 3 0)), (7, oD (.own 2020)), (10, oD (.own 2021)), (12, oD (.ptr 12 0)), (38, iD ((GI .i64 1 ((v4.length : Int))))), (39, iD v11.2)] [(3, .box (AR p1)), (12, .box [.own 2017, .own 2018, .own 2019]), (2017, .vec 1 (v14.map Aa)), (2018, .vec 1 (v18.map Aa)), (2019, .vec 1 (v16.map Bd)), (2020, .vec 1 (v4.map Aa)), (2021, .vec 3 (v11.1.map CR))]) (fun _ _ => rfl) (sm [(2012, 2009), (2013, 2010), (2014, 2011), (2015, 2006), (2016, 2007)] _ _ rfl rfl) (fun j17 n17 v17 h => ?_) (fun v18 s h hs => ?_)
     ·unfold EZ at h
      refine wq rfl (A8 rfl (Ab (AH ?_)))
      refine A0 h (fun h => ?_) fun h => ?_
      ·refine An ?_
       refine AF h (fun v20 => mk [(3, oD (.ptr 3 0)), (7, oD (.own 2025)), (10, oD (.own 2026)), (11, iD v11.2), (12, oD (.ptr 12 0)), (38, iD ((GI .i64 1 ((v4.length : Int))))), (39, iD v11.2), (52, oD (.own 2025)), (53, iD ((v4.length : Int))), (54, iD v17.2)] [(3, .box (AR p1)), (12, .box [.own 2022, .own 2023, .own 2024]), (2022, .vec 1 (v14.map Aa)), (2023, .vec 1 (v20.map Aa)), (2024, .vec 1 (v16.map Bd)), (2025, .vec 1 (v4.map Aa)), (2026, .vec 3 (v11.1.map CR))]) (fun j20 h => ?_) (fun v20 h => ?_)
       ·refine AI (wq rfl (qm rfl ?_))
        refine Cn h fun v21 a21 b21 h => qI AP Dz a21 (Ao b21) rfl (qj Bs (Ao b21) rfl (qa rfl (qa rfl (Ab (wq rfl (qw 2 rfl ?_))))))
        refine Ge h fun c22 h => II rfl c22 (Kw rfl (AL rfl (Ab ?_)))
        refine A0 h (fun h => ?_) fun h => ?_
        ·refine Aj Az rfl (qf CP rfl (ql B6 rfl (qm rfl ?_)))
         refine Cn h fun v24 a24 b24 h => qI AP Dz a24 (Ao b24) rfl ?_
         refine ER rfl rfl rfl rfl (Ao b24) rfl Dz rfl (Da rfl) (EB Aa v17.1 _ ((-1))) ?_
         refine Ab ?_
         exact sn [(2022, 2012), (2023, 2013), (2024, 2014), (2025, 2015), (2026, 2016)] h
        ·refine An ?_
         exact sn [(2022, 2012), (2023, 2013), (2024, 2014), (2025, 2015), (2026, 2016)] h
       ·refine Aj Az rfl (A6 rfl (qm rfl (Ab ?_)))
        exact sn [(2012, 2022), (2013, 2023), (2014, 2024), (2015, 2025), (2016, 2026)] h
      ·refine Bg ?_
       exact sn [(2017, 2012), (2018, 2013), (2019, 2014), (2020, 2015), (2021, 2016)] h
     ·refine Ag hs (Aj Az rfl (qm rfl (qL Bq AO rfl (Cs (AM 2017 _ _ rfl rfl) (Cs (AM 2018 _ _ rfl rfl) (Cs (AM 2019 _ _ rfl rfl) (FD FX AO C4 rfl ?_)))))))
      refine Ge h fun c25 h => G1 (f := CR) FX FX AO Tr C4 c25 rfl (qa rfl (Ab (Aj Az rfl (A6 rfl (qm rfl (Ab ?_))))))
      exact sn [(2006, 2020), (2007, 72)] h
    ·refine Bg ?_
     exact sn [(2008, 2007)] h
   ·refine Ag hs (wq rfl (qm rfl (qa rfl (qe rfl ?_))))
    obtain rfl := sj h
    refine Ag (sm [(1000, 2008)] [(4, oD (.own 1000)), (5, iD 0)] [(1000, .vec 3 (v12.map CR))] rfl rfl) (Ap ?_)
    exact ⟨⟨[_, _], ⟨.tmp _ _ rfl, tm⟩, rfl⟩, ⟨rfl, tv⟩⟩
theorem LH (N : Nat) (p0 : Ad) (p1 : Ai) (r : (List AD)) (h : GQ N p0 p1 = some r) : Ar zA 94 [.e (.agg (Aw p0)), .e (.agg (AR p1))] [(3, r.map BC)] (oD (.own 0)) := by
 unfold GQ at h
 refine cw (n := 98) (rs := [.tmp 4]) Tryz.func94 fun w0 S0 => ?_
 refine wq rfl (qb rfl (qb rfl (qa rfl (Ab (wq rfl (qa rfl (Ab (wp rfl (qf Gq rfl (ql Mk rfl (AT Hs rfl (qm rfl (Ab ?_)))))))))))))
 refine AS (L := Er N p0 p1) h (fun v1 => mk [(3, oD (.ptr 3 0)), (5, oD (.own 2001)), (15, pD (.sl (p0.fh.map Am))), (16, iD ((p0.fh.length : Int))), (17, iD v1.2)] [(3, .box (AR p1)), (2001, .vec 3 (v1.1.map BC))]) (fun v2 => mk [(5, oD (.own 2002))] [(2002, .vec 3 (v2.map BC))]) (fun _ _ => rfl) ((BF 5 2013 3 rfl rfl rfl).trans (sm [(2001, 2013)] _ _ rfl rfl)) (fun j1 n1 v1 h => ?_) (fun v2 s h hs => ?_)
 ·unfold Er at h
  refine wq rfl (A8 rfl (Ab (AH ?_)))
  refine A0 h (fun h => ?_) fun h => ?_
  ·refine An (AH (AI (wq rfl (qm rfl ?_))))
   refine Cn h fun v4 a4 b4 h => qi Hs EQ a4 (Ao b4) rfl (qK IG EQ rfl (qz Np rfl (qa rfl (qs EQ rfl (Ab (wq rfl (qL Bq AO rfl (qf Gz rfl (ql Bs rfl ?_)))))))))
   refine Be h fun v5 a5 h => Av [] (If N p1 v4.fF v5 a5) RH rfl (qL Bq AO rfl (qf Mc rfl (ql Bs rfl ?_)))
   refine Be h fun v6 a6 h => Av [] (If N p1 v4.fU v6 a6) RH rfl (qa rfl (qa rfl (AJ (by kernel_rfl) ?_)))
   refine AF h (fun v7 => mk [(3, oD (.ptr 3 0)), (5, oD (.own 2003)), (6, iD v1.2), (7, oD (.ptr 7 0)), (8, pD (.val (.int .u8 v7))), (9, pD (.val (.int .u8 v6))), (15, pD (.sl (p0.fh.map Am))), (16, iD ((p0.fh.length : Int))), (17, iD v1.2)] [(3, .box (AR p1)), (7, .box (Cq v4)), (2003, .vec 3 (v1.1.map BC))]) (fun j7 h => ?_) (fun v7 h => ?_)
   ·refine wq rfl (qL IG EQ rfl ?_)
    refine Be h fun v8 a8 h => Av [] (I2 N v4 v8 a8) T8 rfl (Ab ?_)
    refine A0 h (fun h => ?_) fun h => ?_
    ·refine Aj Az rfl (qf Eq rfl (ql JV rfl (qm rfl ?_)))
     refine Cn h fun v10 a10 b10 h => qi EY GK a10 (Ao b10) rfl (qk KC rfl (qe rfl ?_))
     exact sn [(2003, 2001)] h
    ·refine An ?_
     exact sn [(2003, 2001)] h
   ·refine wq rfl (qf L7 rfl (ql KA rfl (AT Ie rfl (qm rfl (Ab ?_)))))
    refine AS (L := D8 N v1 v4 v6 v7) h (fun v11 => mk [(3, oD (.ptr 3 0)), (5, oD (.own 2004)), (6, iD v1.2), (7, oD (.ptr 7 0)), (8, pD (.val (.int .u8 v7))), (9, pD (.val (.int .u8 v6))), (15, pD (.sl (p0.fh.map Am))), (16, iD ((p0.fh.length : Int))), (17, iD v1.2), (39, iD ((v4.fJ.length : Int))), (40, iD v11.2)] [(3, .box (AR p1)), (7, .box (Cq v4)), (2004, .vec 3 (v11.1.map BC))]) (fun v12 => mk [(3, oD (.ptr 3 0)), (5, oD (.own 2005)), (15, pD (.sl (p0.fh.map Am))), (16, iD ((p0.fh.length : Int))), (17, iD v1.2)] [(3, .box (AR p1)), (2005, .vec 3 (v12.map BC))]) (fun _ _ => rfl) (sm [(2004, 2003)] _ _ rfl rfl) (fun j11 n11 v11 h => ?_) (fun v12 s h hs => ?_)
    ·unfold D8 at h
     refine wq rfl (A8 rfl (Ab (AH ?_)))
     refine A0 h (fun h => ?_) fun h => ?_
     ·refine An ?_
      refine AF h (fun v14 => mk [(3, oD (.ptr 3 0)), (5, oD (.own 2006)), (6, iD v1.2), (7, oD (.ptr 7 0)), (8, pD (.val (.int .u8 v7))), (9, pD (.val (.int .u8 v6))), (15, pD (.sl (p0.fh.map Am))), (16, iD ((p0.fh.length : Int))), (17, iD v1.2), (39, iD ((v4.fJ.length : Int))), (40, iD v11.2)] [(3, .box (AR p1)), (7, .box (Cq v4)), (2006, .vec 3 (v14.map BC))]) (fun j14 h => ?_) (fun v14 h => ?_)
      ·refine AI (wq rfl (qm rfl (qa rfl (Ab (wp rfl (qw 2 rfl ?_))))))
       refine Ge h fun c15 h => II rfl c15 (Kw rfl (AL rfl (Ab ?_)))
       refine A0 h (fun h => ?_) fun h => ?_
       ·refine Bg ?_
        exact sn [(2006, 2004)] h
       ·refine An (wq rfl (qa rfl (Ab (wp rfl (qf L7 rfl (ql KA rfl (qm rfl ?_)))))))
        refine Cn h fun v17 a17 b17 h => qi Ie Pz a17 (Ao b17) rfl (qk PN rfl (AT MJ rfl (qm rfl (Ab ?_))))
        refine AS (L := D7 N v1 v4 v6 v11 v17) h (fun v18 => mk [(3, oD (.ptr 3 0)), (5, oD (.own 2007)), (6, iD v1.2), (7, oD (.ptr 7 0)), (8, pD (.val (.int .u8 v7))), (9, pD (.val (.int .u8 v6))), (10, iD v11.2), (11, bD v18.2.1), (15, pD (.sl (p0.fh.map Am))), (16, iD ((p0.fh.length : Int))), (17, iD v1.2), (39, iD ((v4.fJ.length : Int))), (40, iD v11.2), (52, pD (.sl (v17.map eB))), (53, iD ((v17.length : Int))), (54, iD v18.2.2)] [(3, .box (AR p1)), (7, .box (Cq v4)), (2007, .vec 3 (v18.1.map BC))]) (fun v19 => mk [(3, oD (.ptr 3 0)), (5, oD (.own 2008)), (6, iD v1.2), (7, oD (.ptr 7 0)), (8, pD (.val (.int .u8 v7))), (9, pD (.val (.int .u8 v6))), (10, iD v11.2), (11, bD v19.2), (15, pD (.sl (p0.fh.map Am))), (16, iD ((p0.fh.length : Int))), (17, iD v1.2), (39, iD ((v4.fJ.length : Int))), (40, iD v11.2)] [(3, .box (AR p1)), (7, .box (Cq v4)), (2008, .vec 3 (v19.1.map BC))]) (fun _ _ => rfl) (sm [(2007, 2004)] _ _ rfl rfl) (fun j18 n18 v18 h => ?_) (fun v19 s h hs => ?_)
        ·unfold D7 at h
         refine wq rfl (A8 rfl (Ab (AH ?_)))
         refine A0 h (fun h => ?_) fun h => ?_
         ·refine An ?_
          refine AF h (fun v21 => mk [(3, oD (.ptr 3 0)), (5, oD (.own 2009)), (6, iD v1.2), (7, oD (.ptr 7 0)), (8, pD (.val (.int .u8 v7))), (9, pD (.val (.int .u8 v6))), (10, iD v11.2), (11, bD v21.2), (15, pD (.sl (p0.fh.map Am))), (16, iD ((p0.fh.length : Int))), (17, iD v1.2), (39, iD ((v4.fJ.length : Int))), (40, iD v11.2), (52, pD (.sl (v17.map eB))), (53, iD ((v17.length : Int))), (54, iD v18.2.2)] [(3, .box (AR p1)), (7, .box (Cq v4)), (2009, .vec 3 (v21.1.map BC))]) (fun j21 h => ?_) (fun v21 h => ?_)
          ·refine AI (wq rfl (qm rfl ?_))
           refine Cn h fun v22 a22 b22 h => qi MJ Wj a22 (Ao b22) rfl (qk TG rfl (qa rfl (qa rfl (Ab (wp rfl (qw 2 rfl ?_))))))
           refine Ge h fun c23 h => II rfl c23 (Kw rfl (AL rfl (Ab ?_)))
           refine A0 h (fun h => ?_) fun h => ?_
           ·refine Bg ?_
            exact sn [(2009, 2007)] h
           ·refine An ?_
            refine AF h (fun v25 => mk [(3, oD (.ptr 3 0)), (5, oD (.own 2010)), (6, iD v1.2), (7, oD (.ptr 7 0)), (8, pD (.val (.int .u8 v7))), (9, pD (.val (.int .u8 v6))), (10, iD v11.2), (11, bD v25), (12, iD v18.2.2), (13, bD v22), (15, pD (.sl (p0.fh.map Am))), (16, iD ((p0.fh.length : Int))), (17, iD v1.2), (39, iD ((v4.fJ.length : Int))), (40, iD v11.2), (52, pD (.sl (v17.map eB))), (53, iD ((v17.length : Int))), (54, iD v18.2.2)] [(3, .box (AR p1)), (7, .box (Cq v4)), (2010, .vec 3 (v18.1.map BC))]) (fun j25 h => ?_) (fun v25 h => ?_)
            ·refine Aj Az rfl (qw 2 rfl ?_)
             refine Dv 65 h rfl (fun h => ?_) fun h => ?_
             ·refine qn rfl (qp rfl (qe rfl ?_))
              exact sn [(2010, 2007)] h
             ·refine qm rfl (qp rfl (qe rfl ?_))
              exact sn [(2010, 2007)] h
            ·refine AF h (fun v27 => mk [(3, oD (.ptr 3 0)), (5, oD (.own 2011)), (6, iD v1.2), (7, oD (.ptr 7 0)), (8, pD (.val (.int .u8 v7))), (9, pD (.val (.int .u8 v6))), (10, iD v11.2), (11, bD v25), (12, iD v18.2.2), (15, pD (.sl (p0.fh.map Am))), (16, iD ((p0.fh.length : Int))), (17, iD v1.2), (39, iD ((v4.fJ.length : Int))), (40, iD v11.2), (52, pD (.sl (v17.map eB))), (53, iD ((v17.length : Int))), (54, iD v18.2.2), (74, bD v27)] [(3, .box (AR p1)), (7, .box (Cq v4)), (2011, .vec 3 (v18.1.map BC))]) (fun j27 h => ?_) (fun v27 h => ?_)
             ·refine Aj Az rfl (qm rfl (B2 rfl (qm rfl ?_)))
              refine Dv 70 h rfl (fun h => ?_) fun h => ?_
              ·refine qf MF rfl (ql TG rfl (B2 rfl (qp rfl (Ab ?_))))
               exact sn [(2011, 2010)] h
              ·refine qw 3 rfl (qp rfl (Ab ?_))
               exact sn [(2011, 2010)] h
             ·refine A0 h (fun h => ?_) fun h => ?_
              ·refine Aj Az rfl (qw 4 rfl (AG GJ Ls rfl (FD Jn DO GJ rfl ?_)))
               refine Ge h fun c30 h => G1 (f := BC) Jn Jn DO Rl GJ c30 rfl (qe rfl ?_)
               exact sn [(2009, 81)] h
              ·refine An ?_
               exact sn [(2009, 2011)] h
          ·refine Aj Az rfl (A6 rfl (qm rfl (Ab ?_)))
           exact sn [(2007, 2009)] h
         ·refine Bg ?_
          exact sn [(2008, 2007)] h
        ·refine Ag hs ?_
         refine AF h (fun v31 => mk [(3, oD (.ptr 3 0)), (5, oD (.own 2012)), (6, iD v1.2), (7, oD (.ptr 7 0)), (8, pD (.val (.int .u8 v7))), (9, pD (.val (.int .u8 v6))), (10, iD v11.2), (15, pD (.sl (p0.fh.map Am))), (16, iD ((p0.fh.length : Int))), (17, iD v1.2), (39, iD ((v4.fJ.length : Int))), (40, iD v11.2), (88, bD v31)] [(3, .box (AR p1)), (7, .box (Cq v4)), (2012, .vec 3 (v19.1.map BC))]) (fun j31 h => ?_) (fun v31 h => ?_)
         ·refine Aj Az rfl (qf MF rfl (ql TG rfl (qm rfl ?_)))
          refine Dv 85 h rfl (fun h => ?_) fun h => ?_
          ·refine qm rfl (B2 rfl (qp rfl (Ab ?_)))
           exact sn [(2012, 2008)] h
          ·refine qw 2 rfl (qp rfl (Ab ?_))
           exact sn [(2012, 2008)] h
         ·refine A0 h (fun h => ?_) fun h => ?_
          ·refine Aj Az rfl (qw 3 rfl (AG GJ Ls rfl (FD Jn DO GJ rfl ?_)))
           refine Ge h fun c34 h => G1 (f := BC) Jn Jn DO Rl GJ c34 rfl (qe rfl ?_)
           exact sn [(2006, 94)] h
          ·refine An ?_
           exact sn [(2006, 2012)] h
      ·refine Aj Az rfl (A6 rfl (qm rfl (Ab ?_)))
       exact sn [(2004, 2006)] h
     ·refine Bg ?_
      exact sn [(2005, 2004)] h
    ·refine Ag hs (Aj Az rfl (A6 rfl (qm rfl (Ab ?_))))
     exact sn [(2001, 2005)] h
  ·refine Bg ?_
   exact sn [(2002, 2001)] h
 ·refine Ag hs (wq rfl (qm rfl (qe rfl ?_)))
  obtain rfl := sj h
  refine Ag (sm [(1000, 2002)] [(4, oD (.own 1000))] [(1000, .vec 3 (v2.map BC))] rfl rfl) (Ap ?_)
  exact ⟨⟨[_], tm, rfl⟩, ⟨rfl, tv⟩⟩
theorem Jt (N : Nat) (p0 : Ad) (p1 : Ai) (r : Ai × AD × Int) (h : GC N p0 p1 = some r) : Ar zA 66 [.e (.agg (Aw p0)), .e (.agg (AR p1))] [] (.tup [.agg (AR r.1), .agg (Gm r.2.1), .one (iC r.2.2)]) := by
 unfold GC at h
 refine cw (n := 42) (rs := [.cell 4 52, .cell 5 124, .tmp 6]) Tryz.func66 fun w0 S0 => ?_
 refine wq rfl (qb rfl (qb rfl (qz C4 rfl (qz GJ rfl (qa rfl (Ab (wq rfl (qL Cp Cm rfl (qL Bq AO rfl ?_)))))))))
 refine Be h fun v1 a1 h => Av [2001] (NZ N p0 p1 v1 a1) VX rfl (qm rfl (qx rfl (qx rfl (qa rfl (qa rfl (Ab (wp rfl (qm rfl (Ba rfl (Ab ?_))))))))))
 refine A0 h (fun h => ?_) fun h => ?_
 ·refine wq rfl (AG C4 Jo rfl (AG GJ Ls rfl (qm rfl (qs AO rfl (qs DO rfl (qe rfl ?_))))))
  obtain rfl := sj h
  refine Ag ((Db 4 _ rfl).trans (sm [] [(4, oD (.ptr 4 0)), (5, oD (.ptr 5 0)), (6, iD v1.2)] [(4, .box [sC ((([] : List Int)).map Aa), sC ((([] : List Int)).map Aa), sC ((([] : List Int)).map Bd)]), (5, .box [iC 0, iC 0, iC 0])] rfl rfl)) (Ap ?_)
  exact ⟨⟨[_, _, _], ⟨.cellN _ _ _ _ _ _ _ rfl rfl Bq AO rfl rfl (EU rfl), ⟨.cellN _ _ _ _ _ _ _ rfl rfl I6 DO rfl rfl (EU rfl), tm⟩⟩, rfl⟩, tv⟩
 ·refine An (wp rfl (qm rfl (Iv FX rfl (qm rfl (Ab ?_)))))
  refine AS (L := FO N p0 v1) h (fun v3 => mk [(2, oD (.ptr 2 0)), (4, oD (.ptr 4 0)), (5, oD (.ptr 5 0)), (23, oD (.own 2002)), (24, iD ((v1.1.length : Int))), (25, iD v3)] [(2, .box (Aw p0)), (4, .box [.pure (.nil0), .pure (.nil0), .pure (.nil0)]), (5, .box [iC 0, iC 0, iC 0]), (2002, .vec 3 (v1.1.map CR))]) (fun v4 => mk [(4, oD (.ptr 4 0)), (5, oD (.ptr 5 0))] [(4, .box [.pure (.nil0), .pure (.nil0), .pure (.nil0)]), (5, .box [iC 0, iC 0, iC 0])]) (fun _ _ => rfl) (sm [(2002, 2001)] _ _ rfl rfl) (fun j3 n3 v3 h => ?_) (fun v4 s h hs => ?_)
  ·unfold FO at h
   refine wq rfl (A8 rfl (Ab (AH ?_)))
   refine A0 h (fun h => ?_) fun h => ?_
   ·refine An (AH (AI (wq rfl ?_)))
    refine Cn h fun v6 a6 b6 h => qI FX AO a6 (Ao b6) rfl (qJ Bq AO (Ao b6) rfl (qz C4 rfl (qs AO rfl (Ab (wq rfl (qL Cp Cm rfl (qL Bq AO rfl ?_)))))))
    refine Be h fun v7 a7 h => Av [2003] (LH N p0 v6 v7 a7) WF rfl (qa rfl (Ab (wq rfl (qm rfl (Iv Jn rfl (EA rfl (Ab ?_)))))))
    refine A0 h (fun h => ?_) fun h => ?_
    ·refine wq rfl (qL Bq AO rfl (qm rfl ?_))
     refine Cn h fun v9 a9 b9 h => qI Jn DO a9 (Ao b9) rfl (qJ I6 DO (Ao b9) rfl (qs AO rfl (qs DO rfl (qa rfl (AJ (by kernel_rfl) ?_)))))
     obtain rfl := sj h
     refine Ag (sm [] [(4, oD (.ptr 4 0)), (5, oD (.ptr 5 0)), (6, iD 0)] [(4, .box (AR v6)), (5, .box (Gm v9))] rfl rfl) (Ap ?_)
     exact ⟨⟨[_, _, _], ⟨.cellN _ _ _ _ _ _ _ rfl rfl Bq AO rfl rfl (EU rfl), ⟨.cellN _ _ _ _ _ _ _ rfl rfl I6 DO rfl rfl (EU rfl), tm⟩⟩, rfl⟩, tv⟩
    ·refine An (Aj Az rfl (A6 rfl (qm rfl (Ab ?_))))
     exact sn [] h
   ·refine Bg ?_
    exact sn [] h
  ·refine Ag hs (wq rfl (AG C4 Jo rfl (AG GJ Ls rfl (qs AO rfl (qs DO rfl (qe rfl ?_))))))
   obtain rfl := sj h
   refine Ag ((Db 4 _ rfl).trans (sm [] [(4, oD (.ptr 4 0)), (5, oD (.ptr 5 0)), (6, iD 15)] [(4, .box [sC ((([] : List Int)).map Aa), sC ((([] : List Int)).map Aa), sC ((([] : List Int)).map Bd)]), (5, .box [iC 0, iC 0, iC 0])] rfl rfl)) (Ap ?_)
   exact ⟨⟨[_, _, _], ⟨.cellN _ _ _ _ _ _ _ rfl rfl Bq AO rfl rfl (EU rfl), ⟨.cellN _ _ _ _ _ _ _ rfl rfl I6 DO rfl rfl (EU rfl), tm⟩⟩, rfl⟩, tv⟩
theorem Ko (N : Nat) (p0 : Ad) (p1 : Ai) (r : Bool × Int) (h : G8 N p0 p1 = some r) : Ar zA 44 [.e (.agg (Aw p0)), .e (.agg (AR p1))] [] (.tup [.one (.pure (.val (.bool r.1))), .one (iC r.2)]) := by
 unfold G8 at h
 refine cw (n := 22) (rs := [.tmp 4, .tmp 5]) Tryz.func44 fun w0 S0 => ?_
 refine wq rfl (qb rfl (qb rfl (qa rfl (qa rfl (Ab (wq rfl (qL Cp Cm rfl (qL Bq AO rfl ?_))))))))
 refine Be h fun v1 a1 h => Av [] (Jt N p0 p1 v1 a1) Ty rfl (qm rfl (qx rfl (qx rfl (qx rfl (qz C4 rfl (qz GJ rfl (qs AO rfl (qs DO rfl (qa rfl (Ab (wq rfl (qm rfl (Ab (AI (wq rfl (AL rfl (qe rfl ?_)))))))))))))))))
 refine A0 h (fun h => ?_) fun h => ?_
 ·refine wq rfl (qa rfl (qe rfl ?_))
  obtain rfl := sj h
  refine Ag (sm [] [(4, bD false), (5, iD 0)] [] rfl rfl) (Ap ?_)
  exact ⟨⟨[_, _], ⟨.tmp _ _ rfl, tm⟩, rfl⟩, tv⟩
 ·refine wq rfl (AL rfl (qe rfl ?_))
  refine A0 h (fun h => ?_) fun h => ?_
  ·refine wq rfl (qa rfl (qe rfl ?_))
   obtain rfl := sj h
   refine Ag (sm [] [(4, bD true), (5, iD 0)] [] rfl rfl) (Ap ?_)
   exact ⟨⟨[_, _], ⟨.tmp _ _ rfl, tm⟩, rfl⟩, tv⟩
  ·refine wq rfl (qm rfl (qa rfl (qe rfl ?_)))
   obtain rfl := sj h
   refine Ag (sm [] [(4, bD false), (5, iD v1.2.2)] [] rfl rfl) (Ap ?_)
   exact ⟨⟨[_, _], ⟨.tmp _ _ rfl, tm⟩, rfl⟩, tv⟩
theorem Ms (N : Nat) (p0 : Ai) (r : ByteArray) (h : Ib N p0 = some r) : Ar zA 67 [.e (.agg (AR p0))] [] (pD (.val (.string r))) := by
 unfold Ib at h
 refine cw (n := 53) (rs := [.tmp 2]) Tryz.func67 fun w0 S0 => ?_
 refine wq rfl (qb rfl (qa rfl (Ab (wq rfl (qf Dn rfl (ql B6 rfl (AT AP rfl (Jl rfl (qf Eq rfl (ql JV rfl (AT EY rfl (A6 rfl ?_))))))))))))
 refine Ge h fun c1 h => Jv (.p rfl) rfl rfl rfl I5 T1 SD (Da rfl) TK rfl rfl rfl c1.1 c1.2.1 c1.2.2 (Nu Bd _ ((0 : Int))) ?_
 refine qa rfl (Ab (wp rfl (qf Dn rfl (ql B6 rfl (AT AP rfl (qm rfl (Ab ?_)))))))
 refine AS (L := Gk N p0) h (fun v2 => mk [(1, oD (.ptr 1 0)), (3, oD (.own 2001)), (18, iD ((p0.ff.length : Int))), (19, iD v2.2)] [(1, .box (AR p0)), (2001, .vec 1 (v2.1.map Bd))]) (fun v3 => mk [(1, oD (.ptr 1 0)), (3, oD (.own 2002))] [(1, .box (AR p0)), (2002, .vec 1 (v3.map Bd))]) (fun _ _ => rfl) (sm [(2001, 15)] _ _ rfl rfl) (fun j2 n2 v2 h => ?_) (fun v3 s h hs => ?_)
 ·unfold Gk at h
  refine wq rfl (A8 rfl (Ab (AH ?_)))
  refine A0 h (fun h => ?_) fun h => ?_
  ·refine An (AH (AI (wq rfl (qm rfl (qa rfl (Ab (Aj Az rfl (qm rfl (qf Dn rfl (ql B6 rfl (qm rfl ?_)))))))))))
   refine Cn h fun v5 a5 b5 h => qi AP Dz a5 (Ao b5) rfl (qk Bs rfl (Ff Uk Um rfl (qf CP rfl (ql B6 rfl (qm rfl ?_)))))
   refine Cn h fun v6 a6 b6 h => qi AP Dz a6 (Ao b6) rfl (qk Bs rfl (A6 rfl (Ff Uk Um rfl (FD I5 T1 TK rfl ?_))))
   refine Ge h fun c7 h => G1 (f := Bd) I5 I5 T1 SD TK c7 rfl (qa rfl (AJ (by kernel_rfl) (Aj Az rfl (A6 rfl (qm rfl (Ab ?_))))))
   exact sn [(2001, 37)] h
  ·refine Bg ?_
   exact sn [(2002, 2001)] h
 ·refine Ag hs (wp rfl (qf Eq rfl (ql JV rfl (AT EY rfl (qm rfl (Ab ?_))))))
  refine AS (L := Gi N p0) h (fun v8 => mk [(3, oD (.own 2003)), (40, pD (.sl (p0.fg.map Bd))), (41, iD ((p0.fg.length : Int))), (42, iD v8.2)] [(2003, .vec 1 (v8.1.map Bd))]) (fun v9 => mk [(3, oD (.own 2004))] [(2004, .vec 1 (v9.map Bd))]) (fun _ _ => rfl) (sm [(2003, 2002)] _ _ rfl rfl) (fun j8 n8 v8 h => ?_) (fun v9 s h hs => ?_)
  ·unfold Gi at h
   refine wq rfl (A8 rfl (Ab (AH ?_)))
   refine A0 h (fun h => ?_) fun h => ?_
   ·refine An (AH (AI (wq rfl ?_)))
    refine Cn h fun v11 a11 b11 h => qi EY GK a11 (Ao b11) rfl (qk KC rfl (qa rfl (Ab (Aj Az rfl (qw 2 rfl (FD I5 T1 TK rfl ?_))))))
    refine Ge h fun c12 h => G1 (f := Bd) I5 I5 T1 SD TK c12 rfl (qa rfl (Ab (Aj Az rfl (A6 rfl (qm rfl (Ab ?_))))))
    exact sn [(2003, 49)] h
   ·refine Bg ?_
    exact sn [(2004, 2003)] h
  ·refine Ag hs (wq rfl (qm rfl ?_))
   refine Md v9 (.p rfl) rfl (HK Bd _ _ _) ⟨rfl, tv⟩ rfl NK HX ?_
   refine qa rfl (Ab ?_)
   obtain rfl := sj h
   refine Ag (sm [] [(2, pD (.val (.string ((DL v9)))))] [] rfl rfl) (Ap ?_)
   exact ⟨⟨[_], tm, rfl⟩, tv⟩
theorem Po (N : Nat) (p0 : Ad) (r : (List Al)) (h : Jh N p0 = some r) : Ar zA 96 [.e (.agg (Aw p0))] [(3, r.map Ae)] (oD (.own 0)) := by
 unfold Jh at h
 refine cw (n := 54) (rs := [.tmp 2]) Tryz.func96 fun w0 S0 => ?_
 refine wq rfl (qb rfl (qa rfl (Ab (wq rfl (qa rfl (Ab (wp rfl (qf EK rfl (ql B6 rfl (AT AP rfl (qm rfl (Ab ?_))))))))))))
 refine AS (L := Gf N p0) h (fun v1 => mk [(1, oD (.ptr 1 0)), (3, oD (.own 2001)), (10, pD (.sl (p0.fi.map Aa))), (11, iD ((p0.fi.length : Int))), (12, iD v1.2)] [(1, .box (Aw p0)), (2001, .vec 3 (v1.1.map Ae))]) (fun v2 => mk [(1, oD (.ptr 1 0)), (3, oD (.own 2002))] [(1, .box (Aw p0)), (2002, .vec 3 (v2.map Ae))]) (fun _ _ => rfl) ((BF 3 2005 3 rfl rfl rfl).trans (sm [(2001, 2005)] _ _ rfl rfl)) (fun j1 n1 v1 h => ?_) (fun v2 s h hs => ?_)
 ·unfold Gf at h
  refine wq rfl (A8 rfl (Ab (AH ?_)))
  refine A0 h (fun h => ?_) fun h => ?_
  ·refine An (AH (AI (wq rfl (qm rfl ?_))))
   refine Cn h fun v4 a4 b4 h => qi AP Dz a4 (Ao b4) rfl (qk Bs rfl (qa rfl (qa rfl (Ab (wq rfl (qw 2 rfl (Ab ?_)))))))
   refine AS (L := GG N v1 v4) h (fun v5 => mk [(1, oD (.ptr 1 0)), (3, oD (.own 2003)), (4, iD v1.2), (10, pD (.sl (p0.fi.map Aa))), (11, iD ((p0.fi.length : Int))), (12, iD v1.2), (17, iD v4), (18, iD v5.2)] [(1, .box (Aw p0)), (2003, .vec 3 (v5.1.map Ae))]) (fun v6 => mk [(1, oD (.ptr 1 0)), (3, oD (.own 2004)), (10, pD (.sl (p0.fi.map Aa))), (11, iD ((p0.fi.length : Int))), (12, iD v1.2)] [(1, .box (Aw p0)), (2004, .vec 3 (v6.map Ae))]) (fun _ _ => rfl) (sm [(2003, 2001)] _ _ rfl rfl) (fun j5 n5 v5 h => ?_) (fun v6 s h hs => ?_)
   ·unfold GG at h
    refine wq rfl (A8 rfl (Ab (AH ?_)))
    refine A0 h (fun h => ?_) fun h => ?_
    ·refine An (AH (AI (wq rfl (qm rfl (qa rfl (Ab (Aj Az rfl (qw 3 rfl (AG Gd Pw rfl (FD BH BG Gd rfl ?_))))))))))
     refine Ge h fun c8 h => G1 (f := Ae) BH BH BG OV Gd c8 rfl (qa rfl (Ab (Aj Az rfl (A6 rfl (qm rfl (Ab ?_))))))
     exact sn [(2003, 26)] h
    ·refine Bg ?_
     exact sn [(2004, 2003)] h
   ·refine Ag hs (Aj Az rfl (A6 rfl (qm rfl (Ab ?_))))
    exact sn [(2001, 2004)] h
  ·refine Bg ?_
   exact sn [(2002, 2001)] h
 ·refine Ag hs (wp rfl (qf EK rfl (ql B6 rfl (AT AP rfl (qm rfl (Ab ?_))))))
  refine AS (L := Gr N p0) h (fun v9 => mk [(1, oD (.ptr 1 0)), (3, oD (.own 2006)), (31, iD ((p0.fi.length : Int))), (32, iD v9.2)] [(1, .box (Aw p0)), (2006, .vec 3 (v9.1.map Ae))]) (fun v10 => mk [(1, oD (.ptr 1 0)), (3, oD (.own 2007))] [(1, .box (Aw p0)), (2007, .vec 3 (v10.map Ae))]) (fun _ _ => rfl) (sm [(2006, 2002)] _ _ rfl rfl) (fun j9 n9 v9 h => ?_) (fun v10 s h hs => ?_)
  ·unfold Gr at h
   refine wq rfl (A8 rfl (Ab (AH ?_)))
   refine A0 h (fun h => ?_) fun h => ?_
   ·refine An (AH (AI (wq rfl (qm rfl (qa rfl (Ab (Aj Az rfl (qw 2 rfl (AG Gd Pw rfl (FD BH BG Gd rfl ?_))))))))))
    refine Ge h fun c12 h => G1 (f := Ae) BH BH BG OV Gd c12 rfl (qa rfl (Ab (Aj Az rfl (A6 rfl (qm rfl (Ab ?_))))))
    exact sn [(2006, 39)] h
   ·refine Bg ?_
    exact sn [(2007, 2006)] h
  ·refine Ag hs (wp rfl (qf Gq rfl (ql Mk rfl (AT Hs rfl (qm rfl (Ab ?_))))))
   refine AS (L := FJ N p0) h (fun v13 => mk [(3, oD (.own 2008)), (43, iD ((p0.fh.length : Int))), (44, iD v13.2)] [(2008, .vec 3 (v13.1.map Ae))]) (fun v14 => mk [(3, oD (.own 2009))] [(2009, .vec 3 (v14.map Ae))]) (fun _ _ => rfl) (sm [(2008, 2007)] _ _ rfl rfl) (fun j13 n13 v13 h => ?_) (fun v14 s h hs => ?_)
   ·unfold FJ at h
    refine wq rfl (A8 rfl (Ab (AH ?_)))
    refine A0 h (fun h => ?_) fun h => ?_
    ·refine An (AH (AI (wq rfl (qm rfl (qa rfl (Ab (Aj Az rfl (qw 2 rfl (AG Gd Pw rfl (FD BH BG Gd rfl ?_))))))))))
     refine Ge h fun c16 h => G1 (f := Ae) BH BH BG OV Gd c16 rfl (qa rfl (Ab (Aj Az rfl (A6 rfl (qm rfl (Ab ?_))))))
     exact sn [(2008, 51)] h
    ·refine Bg ?_
     exact sn [(2009, 2008)] h
   ·refine Ag hs (wq rfl (qm rfl (qe rfl ?_)))
    obtain rfl := sj h
    refine Ag (sm [(1000, 2009)] [(2, oD (.own 1000))] [(1000, .vec 3 (v14.map Ae))] rfl rfl) (Ap ?_)
    exact ⟨⟨[_], tm, rfl⟩, ⟨rfl, tv⟩⟩
theorem JZ (N : Nat) (p0 : Ai) (r : Ai) (h : Gn N p0 = some r) : Ar zA 117 [.e (.agg (AR p0))] [(1, r.ff.map Aa), (1, r.fd.map Aa), (1, r.fg.map Bd)] (.e (.agg [.own 0, .own 1, .own 2])) := by
 unfold Gn at h
 refine cw (n := 13) (rs := [.cell 2 52]) Tryz.func117 fun w0 S0 => ?_
 refine wq rfl (qb rfl (qz C4 rfl (Ab (wq rfl (qf Dn rfl (ql B6 rfl ?_))))))
 refine Be h fun v1 a1 h => Av [2001] (BK N p0.ff v1 a1) Pl rfl (qf CP rfl (ql B6 rfl ?_))
 refine Be h fun v2 a2 h => Av [2002] (BK N p0.fd v2 a2) Pl rfl (qf Eq rfl (ql JV rfl ?_))
 refine Be h fun v3 a3 h => Av [2003] (CY N p0.fg v3 a3) TT rfl (AG C4 Jo rfl (qs AO rfl (AJ (by kernel_rfl) ?_)))
 obtain rfl := sj h
 refine Ag (sm [(1000, 2001), (1001, 2002), (1002, 2003)] [(2, oD (.ptr 2 0))] [(2, .box [.own 1000, .own 1001, .own 1002]), (1000, .vec 1 (v1.map Aa)), (1001, .vec 1 (v2.map Aa)), (1002, .vec 1 (v3.map Bd))] rfl rfl) (Ap ?_)
 exact ⟨⟨[_], ⟨.cellN _ _ _ _ _ _ _ rfl rfl Bq AO rfl rfl (EU rfl), tv⟩, rfl⟩, ⟨rfl, rfl, rfl, tv⟩⟩
theorem J4 (N : Nat) (p0 : A9) (r : Bool) (h : GE N p0 = some r) : Ar zA 125 [.e (.agg (Cq p0))] [] (bD r) := by
 unfold GE at h
 refine cw (n := 11) (rs := [.tmp 2]) Tryz.func125 fun w0 S0 => ?_
 refine wq rfl (qb rfl (qe rfl ?_))
 refine AF h (fun v1 => mk [(2, bD v1)] []) (fun j1 h => ?_) (fun v1 h => ?_)
 ·refine Aj Az rfl (qf HM rfl (ql Bs rfl (AL rfl (qm rfl ?_))))
  refine Dv 6 h rfl (fun h => ?_) fun h => ?_
  ·refine qw 3 rfl (qp rfl (qe rfl ?_))
   exact sn [] h
  ·refine qf HM rfl (ql Bs rfl (AL rfl (qp rfl (qe rfl ?_))))
   exact sn [] h
 ·obtain rfl := sj h
  refine Ag (sm [] [(2, bD v1)] [] rfl rfl) (Ap ?_)
  exact ⟨⟨[_], tm, rfl⟩, tv⟩
theorem NQ (N : Nat) (p0 : Ad) (p1 : Ai) (p2 : Al) (r : Bool × (List Int) × (List Int)) (h : Id N p0 p1 p2 = some r) : Cc zA 118 [.e (.agg (Aw p0)), oD (.ptr 90000 0), .e (.agg (Bz p2))] [(.box [.own 90001, .own 90002, .own 90003], .box [.own 90001, .own 90002, .own 90003]), (.vec 1 (p1.ff.map Aa), .vec 1 (p1.ff.map Aa)), (.vec 1 (p1.fd.map Aa), .vec 1 (r.2.1.map Aa)), (.vec 1 (p1.fg.map Bd), .vec 1 (r.2.2.map Bd))] [] (bD r.1) := by
 unfold Id at h
 refine BP (n := 70) (rs := [.tmp 6]) Tryz.func118 rfl rfl rfl (Da rfl) (Da rfl) rfl rfl (Da rfl) rfl (Da rfl) fun w0 S0 GL => ?_
 refine Ag (sm [] [(0, .e (.agg (Aw p0))), (1, oD (.ptr 90000 0)), (2, .e (.agg (Bz p2)))] [(90000, .box [.own 90001, .own 90002, .own 90003]), (90001, .vec 1 (p1.ff.map Aa)), (90002, .vec 1 (p1.fd.map Aa)), (90003, .vec 1 (p1.fg.map Bd))] rfl rfl) (wq rfl (qb rfl (qb rfl (qa rfl (Ab (AH ?_))))))
 refine AF h (fun v1 => mk [(1, oD (.ptr 90000 0)), (3, oD (.ptr 3 0)), (5, oD (.ptr 5 0)), (30, bD v1)] [(3, .box (Aw p0)), (5, .box (Bz p2)), (90000, .box [.own 90001, .own 90002, .own 90003]), (90001, .vec 1 (p1.ff.map Aa)), (90002, .vec 1 (p1.fd.map Aa)), (90003, .vec 1 (p1.fg.map Bd))]) (fun j1 h => ?_) (fun v1 h => ?_)
 ·refine Aj Az rfl (qm rfl (C9 rfl (qf CP rfl (ql B6 rfl (qf CB rfl (ql Bs rfl ?_))))))
  refine Cn h fun v2 a2 b2 h => qI AP Dz a2 (Ao b2) rfl (qj Bs (Ao b2) rfl (EC rfl (qm rfl ?_)))
  refine Dv 18 h rfl (fun h => ?_) fun h => ?_
  ·refine qw 11 rfl (qp rfl (AJ (by kernel_rfl) ?_))
   exact sn [] h
  ·refine qm rfl (C9 rfl (qf Dn rfl (ql B6 rfl (qf CB rfl (ql Bs rfl ?_)))))
   refine Cn h fun v4 a4 b4 h => qI AP Dz a4 (Ao b4) rfl (qj Bs (Ao b4) rfl (qf JL rfl (ql Bs rfl (AL rfl (qp rfl (AJ (by kernel_rfl) ?_))))))
   exact sn [] h
 ·refine A0 h (fun h => ?_) fun h => ?_
  ·refine wq rfl (qe rfl ?_)
   obtain rfl := sj h
   refine Ag (sm [] [(6, bD false)] [(90000, .box [.own 90001, .own 90002, .own 90003]), (90001, .vec 1 (p1.ff.map Aa)), (90002, .vec 1 (p1.fd.map Aa)), (90003, .vec 1 (p1.fg.map Bd))] rfl rfl) (Ap ?_)
   exact ⟨⟨[_], tm, rfl⟩, ⟨rfl, rfl, rfl, rfl, tv⟩, tv⟩
  ·refine An (wq rfl (qm rfl (C9 rfl (qf CP rfl (ql B6 rfl (qf CB rfl (ql Bs rfl (qf JL rfl (ql Bs rfl ?_)))))))))
   refine Cn h fun v6 a6 b6 h => qI AP Dz a6 (Ao b6) rfl ?_
   refine ER rfl rfl rfl rfl (Ao b6) rfl Dz rfl (Da rfl) (EB Aa p1.fd _ p2.fA) ?_
   refine AJ (by kernel_rfl) (wp rfl (qf Gq rfl (ql Mk rfl (AT Hs rfl (qm rfl (Ab ?_))))))
   refine AS (L := Fl N p0 p2) h (fun v7 => mk [(1, oD (.ptr 90000 0)), (5, oD (.ptr 5 0)), (41, pD (.sl (p0.fh.map Am))), (42, iD ((p0.fh.length : Int))), (43, iD v7.2)] [(5, .box (Bz p2)), (90000, .box [.own 90001, .own 90002, .own 90003]), (90001, .vec 1 (p1.ff.map Aa)), (90002, .vec 1 ((p1.fd.set ((p2.fy).toNat) p2.fA).map Aa)), (90003, .vec 1 (v7.1.map Bd))]) (fun v8 => mk [] [(90000, .box [.own 90001, .own 90002, .own 90003]), (90001, .vec 1 (p1.ff.map Aa)), (90002, .vec 1 ((p1.fd.set ((p2.fy).toNat) p2.fA).map Aa)), (90003, .vec 1 (v8.map Bd))]) (fun _ _ => rfl) (sm [] _ _ rfl rfl) (fun j7 n7 v7 h => ?_) (fun v8 s h hs => ?_)
   ·unfold Fl at h
    refine wq rfl (A8 rfl (Ab (AH ?_)))
    refine A0 h (fun h => ?_) fun h => ?_
    ·refine An ?_
     refine AF h (fun v10 => mk [(1, oD (.ptr 90000 0)), (5, oD (.ptr 5 0)), (41, pD (.sl (p0.fh.map Am))), (42, iD ((p0.fh.length : Int))), (43, iD v7.2)] [(5, .box (Bz p2)), (90000, .box [.own 90001, .own 90002, .own 90003]), (90001, .vec 1 (p1.ff.map Aa)), (90002, .vec 1 ((p1.fd.set ((p2.fy).toNat) p2.fA).map Aa)), (90003, .vec 1 (v10.map Bd))]) (fun j10 h => ?_) (fun v10 h => ?_)
     ·refine AI (wq rfl (qm rfl ?_))
      refine Cn h fun v11 a11 b11 h => qi Hs EQ a11 (Ao b11) rfl (qK IG EQ rfl (qz Np rfl (qa rfl (qs EQ rfl (Ab ?_)))))
      refine AF h (fun v12 => mk [(1, oD (.ptr 90000 0)), (5, oD (.ptr 5 0)), (7, iD v7.2), (41, pD (.sl (p0.fh.map Am))), (42, iD ((p0.fh.length : Int))), (43, iD v7.2), (56, bD v12)] [(5, .box (Bz p2)), (90000, .box [.own 90001, .own 90002, .own 90003]), (90001, .vec 1 (p1.ff.map Aa)), (90002, .vec 1 ((p1.fd.set ((p2.fy).toNat) p2.fA).map Aa)), (90003, .vec 1 (v7.1.map Bd))]) (fun j12 h => ?_) (fun v12 h => ?_)
      ·refine Aj Az rfl (qf Gz rfl (ql Bs rfl (qf CB rfl (ql Bs rfl (AL rfl (qm rfl ?_))))))
       refine Dv 53 h rfl (fun h => ?_) fun h => ?_
       ·refine qL IG EQ rfl ?_
        refine Be h fun v14 a14 h => Av [] (J4 N v11 v14 a14) Te rfl (qp rfl (Ab ?_))
        exact sn [] h
       ·refine qw 2 rfl (qp rfl (Ab ?_))
        exact sn [] h
      ·refine A0 h (fun h => ?_) fun h => ?_
       ·refine Aj Az rfl (qm rfl (C9 rfl (qf Eq rfl (ql JV rfl (qm rfl ?_)))))
        refine Cn h fun v16 a16 b16 h => qI EY GK a16 (Ao b16) rfl (qj KC (Ao b16) rfl (qf JL rfl (ql Bs rfl ?_)))
        refine Ge h fun c17 h => IA rfl c17 (Ok rfl ?_)
        refine Cn h fun v18 a18 b18 h => qI EY GK a18 (Ao b18) rfl ?_
        refine ER rfl rfl rfl rfl (Ao b18) rfl GK rfl (Da rfl) (EB Bd v7.1 _ ((O2 .u8 v16 ((GI .u8 1 p2.fA))))) ?_
        refine AJ (by kernel_rfl) ?_
        exact sn [] h
       ·refine An ?_
        exact sn [] h
     ·refine Aj Az rfl (A6 rfl (qm rfl (Ab ?_)))
      exact sn [] h
    ·refine Bg ?_
     exact sn [] h
   ·refine Ag hs (wq rfl (qe rfl ?_))
    obtain rfl := sj h
    refine Ag (sm [] [(6, bD true)] [(90000, .box [.own 90001, .own 90002, .own 90003]), (90001, .vec 1 (p1.ff.map Aa)), (90002, .vec 1 ((p1.fd.set ((p2.fy).toNat) p2.fA).map Aa)), (90003, .vec 1 (v8.map Bd))] rfl rfl) (Ap ?_)
    exact ⟨⟨[_], tm, rfl⟩, ⟨rfl, rfl, rfl, rfl, tv⟩, tv⟩
theorem Mf (N : Nat) (p0 : Ai) (p1 : Int) (r : Int) (h : Ho N p0 p1 = some r) : Ar zA 126 [.e (.agg (AR p0)), iD p1] [] (pD (.val (.int .u8 r))) := by
 unfold Ho at h
 refine cw (n := 27) (rs := [.tmp 4]) Tryz.func126 fun w0 S0 => ?_
 refine wq rfl (qb rfl (qa rfl (Ab (wq rfl (qf Dn rfl (ql B6 rfl (qm rfl ?_)))))))
 refine Cn h fun v1 a1 b1 h => qi AP Dz a1 (Ao b1) rfl (qk Bs rfl ?_)
 refine Ge h fun c2 h => IA rfl c2 (qe rfl ?_)
 refine AF h (fun v3 => mk [(5, pD (.val (.int .u8 v3)))] []) (fun j3 h => ?_) (fun v3 h => ?_)
 ·refine wq rfl (qf CP rfl (ql B6 rfl (qm rfl ?_)))
  refine Cn h fun v4 a4 b4 h => qi AP Dz a4 (Ao b4) rfl (qk Bs rfl (EC rfl (Ab ?_)))
  refine A0 h (fun h => ?_) fun h => ?_
  ·refine Aj Az rfl (qm rfl (qf CP rfl (ql B6 rfl (qm rfl ?_))))
   refine Cn h fun v6 a6 b6 h => qi AP Dz a6 (Ao b6) rfl (qk Bs rfl ?_)
   refine Ge h fun c7 h => IA rfl c7 (Ok rfl (qe rfl ?_))
   exact sn [] h
  ·refine An ?_
   exact sn [] h
 ·refine wq rfl (qm rfl (qe rfl ?_))
  obtain rfl := sj h
  refine Ag (sm [] [(4, pD (.val (.int .u8 v3)))] [] rfl rfl) (Ap ?_)
  exact ⟨⟨[_], tm, rfl⟩, tv⟩
theorem HN (N : Nat) (p0 : Int) (r : Int) (h : Do N p0 = some r) : Ar zA 128 [pD (.val (.int .u8 p0))] [] (iD r) := by
 unfold Do at h
 refine cw (n := 6) (rs := [.tmp 2]) Tryz.func128 fun w0 S0 => ?_
 refine wq rfl (qa rfl (Ab (wq rfl (qm rfl ?_))))
 refine Be h fun v1 a1 h => GZ (.p rfl) rfl rfl HX a1 ?_
 refine Ff Qo Vx rfl (qe rfl ?_)
 obtain rfl := sj h
 refine Ag (sm [] [(2, iD ((wI .i64 v1)))] [] rfl rfl) (Ap ?_)
 exact ⟨⟨[_], tm, rfl⟩, tv⟩
theorem Kr (N : Nat) (p0 : A9) (p1 : Int) (p2 : Int) (r : Bool) (h : F0 N p0 p1 p2 = some r) : Ar zA 127 [.e (.agg (Cq p0)), pD (.val (.int .u8 p1)), iD p2] [] (bD r) := by
 unfold F0 at h
 refine cw (n := 25) (rs := [.tmp 6]) Tryz.func127 fun w0 S0 => ?_
 refine wq rfl (qb rfl (qa rfl (Ab (wp rfl (qm rfl (qe rfl ?_))))))
 refine AS (L := DI N p0 p2) h (fun v1 => mk [(2, iD p2), (3, oD (.ptr 3 0)), (7, pD (.val (.int .u8 v1)))] [(3, .box (Cq p0))]) (fun v2 => mk [] []) (fun _ _ => rfl) (sm [] _ _ rfl rfl) (fun j1 n1 v1 h => ?_) (fun v2 s h hs => ?_)
 ·unfold DI at h
  refine wp rfl (qm rfl (Ba rfl (Ab ?_)))
  refine A0 h (fun h => ?_) fun h => ?_
  ·refine An (AH (AI (wq rfl (qf IH rfl (ql KA rfl (qm rfl ?_))))))
   refine Be h fun v4 a4 h => Av [] (HN N v1 v4 a4) UZ rfl ?_
   refine Cn h fun v5 a5 b5 h => qi Ie Pz a5 (Ao b5) rfl (qk PN rfl (qm rfl ?_))
   refine Cn h fun v6 a6 b6 h => qi MJ Wj a6 (Ao b6) rfl (qk TG rfl (B2 rfl (AJ (by kernel_rfl) ?_)))
   refine A0 h (fun h => ?_) fun h => ?_
   ·refine wq rfl (qe rfl ?_)
    obtain rfl := sj h
    refine Ag (sm [] [(6, bD false)] [] rfl rfl) (Ap ?_)
    exact ⟨⟨[_], tm, rfl⟩, tv⟩
   ·refine An (Aj Az rfl (qw 2 rfl (J5 rfl (Kw rfl (qe rfl ?_)))))
    exact sn [] h
  ·refine Bg ?_
   exact sn [] h
 ·refine Ag hs (wq rfl (qe rfl ?_))
  obtain rfl := sj h
  refine Ag (sm [] [(6, bD true)] [] rfl rfl) (Ap ?_)
  exact ⟨⟨[_], tm, rfl⟩, tv⟩
theorem NO (N : Nat) (p0 : Ad) (p1 : Ai) (p2 : Int) (r : Bool × (List Int)) (h : Ik N p0 p1 p2 = some r) : Cc zA 119 [.e (.agg (Aw p0)), oD (.ptr 90000 0), iD p2] [(.box [.own 90001, .own 90002, .own 90003], .box [.own 90001, .own 90002, .own 90003]), (.vec 1 (p1.ff.map Aa), .vec 1 (p1.ff.map Aa)), (.vec 1 (p1.fd.map Aa), .vec 1 (p1.fd.map Aa)), (.vec 1 (p1.fg.map Bd), .vec 1 (r.2.map Bd))] [] (bD r.1) := by
 unfold Ik at h
 refine BP (n := 68) (rs := [.tmp 6]) Tryz.func119 rfl rfl rfl (Da rfl) (Da rfl) rfl rfl (Da rfl) rfl (Da rfl) fun w0 S0 GL => ?_
 refine Ag (sm [] [(0, .e (.agg (Aw p0))), (1, oD (.ptr 90000 0)), (2, iD p2)] [(90000, .box [.own 90001, .own 90002, .own 90003]), (90001, .vec 1 (p1.ff.map Aa)), (90002, .vec 1 (p1.fd.map Aa)), (90003, .vec 1 (p1.fg.map Bd))] rfl rfl) (wq rfl (qb rfl (qa rfl (Ab (wq rfl (qf Gq rfl (ql Mk rfl (qm rfl ?_))))))))
 refine Cn h fun v1 a1 b1 h => qi Hs EQ a1 (Ao b1) rfl (qK IG EQ rfl (qz Np rfl (qs EQ rfl (Ab (wp rfl (qL IG EQ rfl ?_))))))
 refine Be h fun v2 a2 h => Av [] (J4 N v1 v2 a2) Te rfl (B2 rfl (Ab ?_))
 refine A0 h (fun h => ?_) fun h => ?_
 ·refine wq rfl (qe rfl ?_)
  obtain rfl := sj h
  refine Ag (sm [] [(6, bD false)] [(90000, .box [.own 90001, .own 90002, .own 90003]), (90001, .vec 1 (p1.ff.map Aa)), (90002, .vec 1 (p1.fd.map Aa)), (90003, .vec 1 (p1.fg.map Bd))] rfl rfl) (Ap ?_)
  exact ⟨⟨[_], tm, rfl⟩, ⟨rfl, rfl, rfl, rfl, tv⟩, tv⟩
 ·refine An (wq rfl (qm rfl (C9 rfl (qL Bq AO rfl (qf Gz rfl (ql Bs rfl ?_))))))
  refine Be h fun v4 a4 h => FM [] [90001, 90002, 90003] (Mf N p1 v1.fF v4 a4) Vl DW rfl (qa rfl (AJ (by kernel_rfl) (wq rfl (qm rfl (C9 rfl (qf Eq rfl (ql JV rfl (qm rfl ?_))))))))
  refine Cn h fun v5 a5 b5 h => qI EY GK a5 (Ao b5) rfl (qj KC (Ao b5) rfl (qm rfl (L9 rfl (qa rfl (Ab (AH ?_))))))
  refine AF h (fun v6 => mk [(1, oD (.ptr 90000 0)), (2, iD p2), (8, pD (.val (.int .u8 v4))), (60, bD v6)] [(90000, .box [.own 90001, .own 90002, .own 90003]), (90001, .vec 1 (p1.ff.map Aa)), (90002, .vec 1 (p1.fd.map Aa)), (90003, .vec 1 (p1.fg.map Bd))]) (fun j6 h => ?_) (fun v6 h => ?_)
  ·refine Aj Az rfl (qm rfl (C9 rfl (qf Eq rfl (ql JV rfl (qm rfl ?_)))))
   refine Cn h fun v7 a7 b7 h => qI EY GK a7 (Ao b7) rfl (qj KC (Ao b7) rfl (qm rfl (AL rfl (qm rfl ?_))))
   refine Dv 42 h rfl (fun h => ?_) fun h => ?_
   ·refine qw 4 rfl (qu rfl (qu rfl (qu rfl (qu rfl (qu rfl (qu rfl (qu rfl (qu rfl (qu rfl (qu rfl (qu rfl (qu rfl (qn rfl (qp rfl (AJ (by kernel_rfl) ?_)))))))))))))))
    exact sn [] h
   ·refine qf HM rfl (ql Bs rfl (AL rfl (qm rfl ?_)))
    refine Dv 46 h rfl (fun h => ?_) fun h => ?_
    ·refine qL IG EQ rfl (qw 2 rfl (C9 rfl (qf Dn rfl (ql B6 rfl (qf Gz rfl (ql Bs rfl ?_))))))
     refine Cn h fun v10 a10 b10 h => qI AP Dz a10 (Ao b10) rfl (qj Bs (Ao b10) rfl ?_)
     refine Be h fun v11 a11 h => Av [] (Kr N v1 ((IY .u8 v5 v4)) v10 v11 a11) Ur rfl (B2 rfl (qp rfl (qp rfl (AJ (by kernel_rfl) ?_))))
     exact sn [] h
    ·refine qw 12 rfl (qp rfl (qp rfl (AJ (by kernel_rfl) ?_)))
     exact sn [] h
  ·refine A0 h (fun h => ?_) fun h => ?_
   ·refine wq rfl (qe rfl ?_)
    obtain rfl := sj h
    refine Ag (sm [] [(6, bD false)] [(90000, .box [.own 90001, .own 90002, .own 90003]), (90001, .vec 1 (p1.ff.map Aa)), (90002, .vec 1 (p1.fd.map Aa)), (90003, .vec 1 (p1.fg.map Bd))] rfl rfl) (Ap ?_)
    exact ⟨⟨[_], tm, rfl⟩, ⟨rfl, rfl, rfl, rfl, tv⟩, tv⟩
   ·refine An (wq rfl (qm rfl (C9 rfl (qf Eq rfl (ql JV rfl (qw 2 rfl ?_))))))
    refine Cn h fun v13 a13 b13 h => qI EY GK a13 (Ao b13) rfl ?_
    refine ER rfl rfl rfl rfl (Ao b13) rfl GK rfl (Da rfl) (EB Bd p1.fg _ v4) ?_
    refine Ab (wq rfl (qe rfl ?_))
    obtain rfl := sj h
    refine Ag (sm [] [(6, bD true)] [(90000, .box [.own 90001, .own 90002, .own 90003]), (90001, .vec 1 (p1.ff.map Aa)), (90002, .vec 1 (p1.fd.map Aa)), (90003, .vec 1 ((p1.fg.set ((p2).toNat) v4).map Bd))] rfl rfl) (Ap ?_)
    exact ⟨⟨[_], tm, rfl⟩, ⟨rfl, rfl, rfl, rfl, tv⟩, tv⟩
end Go.Lift
