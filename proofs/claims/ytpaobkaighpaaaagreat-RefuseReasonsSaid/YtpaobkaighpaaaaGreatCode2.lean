/- Lemmas for RefuseReasonsSaid, which YtpaobkaighpaaaaGreatFinR7 proves. -/
import Derived.Test.YtpaobkaighpaaaaGreatLift39
import Derived.Shelf.SlSortCmp.NoneTotal
import Derived.MakeChecks
import Derived.Shelf.Strconv.Itoa3
import Derived.Shelf.Spec.TrailingZeros
import Derived.Shelf.SlLaysF
import Derived.Shelf.Strconv.Itoa4
import Derived.Laws.Runes
import Derived.Test.YtpaobkaighpaaaaGreatProg
import Derived.KernelRfl
open Array renaming getElem?_append → zI4, getElem?_eq_none → zE2
open Bool renaming and_eq_true → zA4, or_eq_true → zF6
open Int renaming tmod → zB5
open List renaming all_eq_true → zA5, getElem?_eq_getElem → zB6, getElem?_map → zA6, getElem_mem → zE9, length_map → zC2, mem_cons → zB0, mem_cons_of_mem → zJ3, mem_map → zB8, pairwise_cons → zD3, pairwise_iff_getElem → zH7, pairwise_map → zK6, range → zB1, replicate → zA2
open Nat renaming add_mul → zD7, min → zE5, mul_le_mul_right → zA3, zero_add → zA1, zero_le → zB2
open Option renaming getD_some → zC9, map_some → zE8
open Go.Proofs.Tryz renaming prog → zA0
namespace Go.Lift
open List renaming mem_of_getElem? → lM
open List renaming getD_eq_getElem?_getD → lD
open Go.RowKit Go.Shelf
theorem Xb {w w' : World} (h : VC w.heap.size w w') : ∃ q os, w' = Go.Sort.grow (w.drewN q) os := by
 refine ⟨w'.drawn - w.drawn, w'.heap.extract w.heap.size w'.heap.size, ?_⟩
 have hh : w'.heap = w.heap ++ w'.heap.extract w.heap.size w'.heap.size := by
  apply Array.ext_getElem?
  intro k
  rw [zI4]
  split
  ·rename_i hk; exact h.block k hk
  ·rename_i hk
   rw [Array.getElem?_extract]
   have := h.size
   split
   ·congr 1; omega
   ·rw [zE2]; omega
 have hd : w.drawn ≤ w'.drawn := h.drawn rfl
 have ht := h.tape
 have ho := h.os
 have hu := h.output
 obtain ⟨hp', tp', dr', os', ou'⟩ := w'
 obtain ⟨hp, tp, dr, os, ou⟩ := w
 simp only at hh hd ht ho hu
 subst ht; subst ho; subst hu
 simp only [Go.Sort.grow, World.drewN, World.mk.injEq, and_true, true_and]
 exact ⟨hh, by omega⟩
def TD {α : Type} (c : α → α → Int) (x y : α) : Prop := c x y < 0 ∧ 0 < c y x
structure Mm {α : Type} (c : α → α → Int) (M : α → Prop) : Prop where
 self : ∀ x, M x → c x x = 0
 tri : ∀ x y, M x → M y → x = y ∨ TD c x y ∨ TD c y x
 trans : ∀ x y z, M x → M y → M z → TD c x y → TD c y z → TD c x z
namespace Mm
variable {α : Type} {c : α → α → Int} {M : α → Prop}
theorem lt (O : Mm c M) {x y : α} (hx : M x) (hy : M y) : c x y < 0 ↔ TD c x y := by
 refine ⟨fun h => ?_, fun h => h.1⟩
 rcases O.tri x y hx hy with e | e | e
 ·subst e; have := O.self x hx; omega
 ·exact e
 ·have := e.2; omega
theorem asym {x y : α} (h : TD c x y) (k : TD c y x) : False := by have := h.1; have := k.2; omega
theorem eq (O : Mm c M) {x y : α} (hx : M x) (hy : M y) (h : ¬ c x y < 0) (k : ¬ c y x < 0) : x = y := by
 rcases O.tri x y hx hy with e | e | e
 ·exact e
 ·exact absurd e.1 h
 ·exact absurd e.1 k
theorem ntrans (O : Mm c M) {x y z : α} (hx : M x) (hy : M y) (hz : M z) (h : ¬ c x y < 0) (k : ¬ c y z < 0) : ¬ c x z < 0 := by
 rw [O.lt hx hy] at h; rw [O.lt hy hz] at k; rw [O.lt hx hz]
 intro q
 have h' : x = y ∨ TD c y x := by rcases O.tri x y hx hy with e | e | e; exact .inl e; exact absurd e h; exact .inr e
 have k' : y = z ∨ TD c z y := by rcases O.tri y z hy hz with e | e | e; exact .inl e; exact absurd e k; exact .inr e
 rcases h' with e | e
 ·subst e; exact k q
 ·rcases k' with f | f
  ·subst f; exact asym q e
  ·exact asym q (O.trans z y x hz hy hx f e)
end Mm
theorem UC {α : Type} {c : α → α → Int} : ∀ (a b : List α), (∀ x y, x ∈ a → y ∈ a → ¬ c x y < 0 → ¬ c y x < 0 → x = y) → a.Perm b → a.Pairwise (fun x y => ¬ c y x < 0) → b.Pairwise (fun x y => ¬ c y x < 0) → a = b
 | [], b, _, h, _, _ => (List.nil_perm.1 h).symm
 | x :: xs, [], _, h, _, _ => by cases List.perm_nil.1 h
 | x :: xs, y :: ys, hE, h, ha, hb => by
  obtain ⟨a1, a2⟩ := zD3.1 ha
  obtain ⟨b1, b2⟩ := zD3.1 hb
  have exy : x = y := by
   rcases zB0.1 (h.mem_iff.1 (List.mem_cons_self : x ∈ x :: xs)) with e | e
   ·exact e
   rcases zB0.1 (h.mem_iff.2 (List.mem_cons_self : y ∈ y :: ys)) with f | f
   ·exact f.symm
   exact hE x y (by simp) (by simp [f]) (b1 x e) (a1 y f)
  subst exy
  rw [UC xs ys (fun u v hu hv => hE u v (by simp [hu]) (by simp [hv])) (List.perm_cons x |>.1 h) a2 b2]
section
variable {P : Program} {ρ : Ren} {α : Type}
theorem I1 {β' : Type} [Inhabited β'] (enc : β' → List Value) (k : Nat) (w : World) (β m : Nat) (d : Array β') (os : Array Obj) {γ : Nat} (h : γ < w.heap.size) (hne : γ ≠ β) : (Go.Proofs.sortWorldK enc k w β 0 m d os).heap[γ]? = w.heap[γ]? := by
 unfold Go.Proofs.sortWorldK Go.Sort.grow Go.Sort.putRowK Go.Sort.putRow Go.Sort.mapBlock Go.Sort.ahead
 simp only
 rw [zI4, if_pos (by simpa using h), Array.getElem?_modify, if_neg (Ne.symm hne)]
theorem Si {β' : Type} [Inhabited β'] (enc : β' → List Value) (k : Nat) (w : World) (β m : Nat) (d : Array β') (os : Array Obj) {arr : Array Value} {el : TypeId} {fz : Nat × Nat} (h : w.heap[β]? = some (.cells arr el fz)) : (Go.Proofs.sortWorldK enc k w β 0 m d os).heap[β]? = some (.cells (Go.Sort.putCells id 0 (Go.Sort.flatK enc k d) arr) el fz) := by
 unfold Go.Proofs.sortWorldK Go.Sort.grow Go.Sort.putRowK Go.Sort.putRow Go.Sort.mapBlock Go.Sort.ahead
 simp only
 have hlt : β < w.heap.size := (Array.getElem?_eq_some_iff.1 h).1
 rw [zI4, if_pos (by simpa using hlt), Array.getElem?_modify, if_pos rfl, h]
 rfl
theorem O4 {β' : Type} [Inhabited β'] (enc : β' → List Value) (k : Nat) (w : World) (β m : Nat) (d : Array β') (os : Array Obj) : w.heap.size ≤ (Go.Proofs.sortWorldK enc k w β 0 m d os).heap.size := by
 unfold Go.Proofs.sortWorldK Go.Sort.grow Go.Sort.putRowK Go.Sort.putRow Go.Sort.mapBlock Go.Sort.ahead
 simp
theorem Tv (L : Go.Proofs.SlLaysF0.n6 P ρ) (k : Nat) (aE : ∀ w, (isAgg (ρ.t 24)).run P w = .ok true w) (zE : ∀ w, (Go.sizeOf (ρ.t 24)).run P w = .ok k w) {e : α → List T} {g : List (Bool × List T) → Option T} {c : α → α → Int} {xs ys : List α}
  (hg : ∀ x y, x ∈ xs → y ∈ xs → g [(true, e x), (true, e y)] = some (.val (.int .i64 (c x y)))) (O : Mm c (· ∈ xs)) (hp : ys.Perm xs) (hs : ys.Pairwise fun x y => ¬ c y x < 0) (hl : xs.length < 4611686018427387904) :
  Dy P (ρ.f 6) [.e (.one (.own 90000)), .e (.one (.clo g))] [(.vec k (xs.map e), .vec k (ys.map e))] [] (.tup []) := by
 intro w G vs hS hgk hlb hla hli hlen hrd
 have hb := hlb 0 _ rfl
 have h0 : Fg P w G (Aw vs 0) (.own 90000) := hrd 0 _ rfl
 obtain ⟨f, caps, hv, ⟨fn, hf1, hf2, hf3⟩, hcall⟩ : NN P w G.S (Aw vs 1) g := hrd 1 _ rfl
 have hvs : vs = #[Aw vs 0, Aw vs 1] := by
  have h2 : vs.size = 2 := hlen
  apply Array.ext (by simp [h2])
  intro i h1 _
  match i, h1 with
  | 0, h1 => simp [Aw, h1]
  | 1, h1 => simp [Aw, h1]
  | i + 2, h1 => omega
 have hys : ys.length = xs.length := hp.length_eq
 rw [hvs, h0.1, hv]
 by_cases hx0 : xs = []
 ·subst hx0
  have hy : ys = [] := List.perm_nil.1 hp
  subst hy
  obtain ⟨p, cap, hh⟩ : ∃ p cap, G.hd 90000 = .slice p 0 cap := by
   rcases hb with ⟨a, b1, _, _⟩ | ⟨β, cap, arr, el, _, b1, _⟩
   ·exact ⟨_, _, b1⟩
   ·exact ⟨_, _, b1⟩
  rw [hh]
  refine (Go.Proofs.AnyF.slices_SortFunc_none L p cap _ w).mono ?_
  rintro e' w' ⟨rfl, rfl⟩
  refine ⟨_, G, rfl, DB.refl _ _ _, fun _ h => h, fun _ h => .inl h, ⟨#[], rfl, rfl, fun j x hj => by simp at hj⟩, fun i x hi => ?_, fun i x hi => by simp at hi, fun _ _ => ⟨rfl, rfl, rfl⟩, fun i β hi h => (hla i β hi h).2, fun i β hi => by simp at hi, fun i l β hi => by simp at hi⟩
  match i, hi with
  | 0, hi => cases hi; exact hb
  | i + 1, hi => simp at hi
 ·rcases hb with ⟨a, b1, b2, b3⟩ | ⟨β, cap, arr, el, b0, b1, b2, b3, b4, b5, b6⟩
  ·exact absurd (List.map_eq_nil_iff.1 b2) hx0
  ·have hβ : β < w.heap.size ∧ ¬ G.S β := hla 0 β (by simp) (.inl b0)
   have hek : ∀ x, x ∈ xs → (e x).length = k := fun x hx => by
    obtain ⟨i, hi, rfl⟩ := List.mem_iff_getElem.1 hx
    exact b5 i _ (by simp [hi])
   -- the elements with their cells
   let A := { p : List Value × α // p.2 ∈ xs ∧ p.1.length = k ∧ ∀ (j : Nat) (t : T), (e p.2)[j]? = some t → Ea w G.S (p.1.getD j undef) t }
   let at' : Fin xs.length → A := fun i => ⟨((zB1 k).map fun j => Aw arr (i.1 * k + j), xs[i.1]), zE9 i.2, by simp, fun j t hj => by
    have hjk : j < k := by rw [← hek xs[i.1] (zE9 i.2)]; exact AC hj
    have := b6 i.1 (e xs[i.1]) j t (by simp) hj
    simpa [hjk] using this⟩
   have hpos : 0 < xs.length := List.length_pos_iff.2 hx0
   letI : Inhabited A := ⟨at' ⟨0, hpos⟩⟩
   let d : Array A := Array.ofFn at'
   have hds : d.size = xs.length := by simp [d]
   have hdg : ∀ i (h : i < xs.length), d[i]! = at' ⟨i, h⟩ := fun i h => by rw [getElem!_pos d i (by omega)]; simp [d]
   have hdl : d.toList.map (fun x => x.1.2) = xs := by
    apply List.ext_getElem
    ·simp [hds]
    ·intro i h1 h2
     simp [d, at']
   let enc : A → List Value := fun x => x.1.1
   have hk : ∀ x : A, (enc x).length = k := fun x => x.2.2.1
   have h1c : ∀ x : A, ∀ v ∈ enc x, v.oneCell' = true := by
    intro x v hv
    obtain ⟨j, hj, rfl⟩ := List.mem_iff_getElem.1 hv
    have hje : j < (e x.1.2).length := by rw [hek _ x.2.1, ← hk x]; exact hj
    have := (x.2.2.2 j _ (zB6 hje)).one
    rw [lD, zB6 hj] at this
    revert this
    show G8 (enc x)[j] = true → _
    generalize (enc x)[j] = q
    intro h
    cases q <;> first | rfl | cases h
   let cf : A → A → Int := fun x y => c x.1.2 y.1.2
   have hlt : ∀ x y : A, Go.Proofs.ltOf cf x y = decide (c x.1.2 y.1.2 < 0) := fun _ _ => rfl
   have hO : Go.Sort.SWO (Go.Proofs.ltOf cf) := by
    refine ⟨fun x => ?_, fun x y z => ?_, fun x y z => ?_⟩
    ·rw [hlt, O.self _ x.2.1]; rfl
    ·rw [hlt, hlt, hlt]; intro h1 h2
     have h1 := (O.lt x.2.1 y.2.1).1 (of_decide_eq_true h1)
     have h2 := (O.lt y.2.1 z.2.1).1 (of_decide_eq_true h2)
     exact decide_eq_true (O.trans _ _ _ x.2.1 y.2.1 z.2.1 h1 h2).1
    ·rw [hlt, hlt, hlt]; intro h1 h2
     exact decide_eq_false (O.ntrans x.2.1 y.2.1 z.2.1 (of_decide_eq_false h1) (of_decide_eq_false h2))
   have eg : ∀ args w, (callFunc f args).run P w = .ok (.enter f args) w := IQ (by unfold AG; rw [hf1]; simp [hf2]; simpa using hf3)
   have hcmp : Go.Proofs.CmpLays P f caps enc k cf β 0 d.size w := by
    intro m os dk hdk x y
    refine (hcall _ G.S (fun _ h => h) (fun γ hγ => I1 enc k w β m dk os (hS γ hγ) (fun q => hβ.2 (q ▸ hγ))) (fun γ hγ => Nat.lt_of_lt_of_le (hS γ hγ) (O4 enc k w β m dk os)) (hgk.mono (fun γ hγ => I1 enc k w β m dk os (hS γ hγ) (fun q => hβ.2 (q ▸ hγ))) (fun _ h => h)) #[.agg (enc x).toArray, .agg (enc y).toArray] [(true, e x.1.2), (true, e y.1.2)] _ rfl ?_ (hg _ _ x.2.1 y.2.1)).mono ?_
    ·have one : ∀ z : A, Y6 (Go.Proofs.sortWorldK enc k w β 0 m dk os) G.S (.agg (enc z).toArray) (true, e z.1.2) := fun z => by
      refine ⟨_, rfl, by simp [hk, hek _ z.2.1], fun j t hj => ?_⟩
      have := z.2.2.2 j t hj
      have e1 : Aw (enc z).toArray j = z.1.1.getD j undef := by simp [Aw, enc, lD]
      rw [e1]
      exact this.mono (fun γ hγ => I1 enc k w β m dk os (hS γ hγ) (fun q => hβ.2 (q ▸ hγ))) (fun _ h => h)
     intro j q hq
     match j, hq with
     | 0, hq => cases hq; exact one x
     | 1, hq => cases hq; exact one y
     | j + 2, hq => simp at hq
    ·rintro e' w'' ⟨v', S'', rfl, hbel, _, _, hr⟩
     cases hr
     exact ⟨rfl, Xb hbel⟩
   have hH : Go.Sort.HoldsK enc k w β 0 d := by
    intro j hj
    have hj' : j < xs.length * k := by simpa [hds] using hj
    have hk0 : 0 < k := Nat.pos_of_ne_zero fun h => by rw [h] at hj'; simp at hj'
    have hi : j / k < xs.length := Nat.div_lt_of_lt_mul (by rwa [Nat.mul_comm] at hj')
    have hm : j % k < k := Nat.mod_lt _ hk0
    have hsz : j < arr.size := by
     have h3 : (xs.map e).length ≤ cap := b3
     rw [zC2] at h3
     have := zA3 k h3
     omega
    have hval : (Go.Sort.flatK enc k d)[j]! = Aw arr j := by
     rw [Go.Sort.get_flatK enc k d j (by rw [hds]; exact hj'), hdg _ hi]
     simp only [enc, at']
     rw [getElem!_pos _ _ (by simp [hm])]
     simp only [List.getElem_map, List.getElem_range]
     rw [Nat.div_add_mod']
    rw [hval, zA1]
    refine ⟨by simp [World.cell?, b2, Ii hsz], by simp [World.frozen?, b2]⟩
   have hhd : G.hd 90000 = .slice (some ⟨β, 0, none⟩) d.size cap := by rw [b1, hds, zC2]
   rw [hhd]
   refine (Go.Proofs.AnyQ.slices_SortFunc L k aE zE enc hk h1c cf hO f caps β 0 cap d w eg hcmp hH hβ.1 (by rw [hds]; exact hl)).mono ?_
   rintro e' w' ⟨rfl, d', n, os, hpm, hsd, rfl⟩
   have hds' : d'.size = d.size := hpm.1
   have hpl : d'.toList.Perm d.toList := by
    have h := hpm.2.2
    have e1 : (d'.extract 0 d.size).toList = d'.toList := by rw [← hds']; simp
    have e2 : (d.extract 0 d.size).toList = d.toList := by simp
    rwa [e1, e2] at h
   have hlist : d'.toList.map (fun x => x.1.2) = ys := by
    refine UC (c := c) _ _ (fun x y hx hy h1 h2 => ?_) (((hpl.map _).trans (by rw [hdl])).trans hp.symm) ?_ hs
    ·obtain ⟨a, _, rfl⟩ := zB8.1 hx
     obtain ⟨b, _, rfl⟩ := zB8.1 hy
     exact O.eq a.2.1 b.2.1 h1 h2
    ·rw [zK6, zH7]
     intro i j hi hj hij
     have := hsd i j (zB2 _) hij (by rw [← hds']; simpa using hj)
     rw [getElem!_pos d' i (by simpa using hi), getElem!_pos d' j (by simpa using hj), hlt] at this
     simpa using of_decide_eq_false this
   have hat : (Go.Proofs.sortWorldK enc k w β 0 n d' os).heap[β]? = some (.cells (Go.Sort.putCells id 0 (Go.Sort.flatK enc k d') arr) el (0, 0)) := Si enc k w β n d' os b2
   have hlen' : d'.size = ys.length := by rw [hds', hds, hys]
   refine ⟨_, G, rfl, ⟨rfl, rfl, rfl, O4 enc k w β n d' os, .of (by show w.drawn ≤ w.drawn + n; omega), fun γ hγ hL => I1 enc k w β n d' os hγ fun q => hL ⟨0, by simp, .inl (q ▸ b0)⟩⟩, fun _ h => h, fun _ h => .inl h, ⟨#[], rfl, rfl, fun j x hj => by simp at hj⟩, fun i x hi => ?_, fun i x hi => by simp at hi, fun _ _ => ⟨rfl, rfl, rfl⟩, fun i γ hi h => (hla i γ hi h).2, fun i γ hi => by simp at hi, fun i l γ hi => by simp at hi⟩
   match i, hi with
   | i + 1, hi => simp at hi
   | 0, hi =>
    cases hi
    refine .inr ⟨β, cap, _, el, b0, by rw [hhd, hds, zC2, hys], hat, by rw [zC2, hys]; simpa using b3, by simpa [Go.Sort.putCells] using b4, ?_, ?_⟩
    ·intro i row hi
     obtain ⟨x, hx, rfl⟩ : ∃ x, x ∈ ys ∧ e x = row := by
      rw [zA6] at hi
      cases hq : ys[i]? with
      | none => rw [hq] at hi; cases hi
      | some x => rw [hq] at hi; cases hi; exact ⟨x, lM hq, rfl⟩
     exact hek x (hp.mem_iff.1 hx)
    ·intro i row j t hi hj
     rw [zA6] at hi
     cases hq : ys[i]? with
     | none => rw [hq] at hi; cases hi
     | some x =>
      rw [hq] at hi; cases hi
      have hil : i < d'.size := by rw [hlen']; exact AC hq
      have hxm : x ∈ xs := hp.mem_iff.1 (lM hq)
      have hjk : j < k := by rw [← hek x hxm]; exact AC hj
      have hx : (d'[i]!).1.2 = x := by
       rw [← hlist, zA6] at hq
       rw [getElem!_pos d' i hil]
       rw [show d'.toList[i]? = some d'[i] from by simp [hil]] at hq
       simpa using hq
      have hr := (d'[i]!).2.2.2 j t (by rw [hx]; exact hj)
      have hij : i * k + j < d'.size * k := by
       have := zA3 k (show i + 1 ≤ d'.size from hil)
       rw [zD7, Nat.one_mul] at this; omega
      have hasz : i * k + j < arr.size := by
       have h3 : (xs.map e).length ≤ cap := b3
       rw [zC2] at h3
       have h4 := zA3 k h3
       rw [hlen', hys] at hij
       omega
      have d1 : (i * k + j) / k = i := (Go.Sort.blk_iff k i _ (by omega)).1 ⟨by omega, by omega⟩
      have d2 : (i * k + j) % k = j := by rw [Nat.mod_eq_sub_div_mul, d1]; omega
      have hcell : Aw (Go.Sort.putCells id 0 (Go.Sort.flatK enc k d') arr) (i * k + j) = (d'[i]!).1.1.getD j undef := by
       unfold Aw Go.Sort.putCells
       rw [Array.getElem?_mapIdx, show arr[i * k + j]? = some (Aw arr (i * k + j)) from Ii hasz]
       simp only [zE8, zC9, zB2, true_and, zA1, Nat.sub_zero, Go.Sort.size_flatK]
       rw [if_pos hij]
       simp only [id]
       rw [Go.Sort.get_flatK enc k d' _ hij, d1, d2, lD, getElem!_pos _ _ (by rw [hk]; exact hjk), zB6 (by rw [show (d'[i]!).1.1.length = k from hk _]; exact hjk)]
       rfl
      rw [hcell]
      exact hr.mono (fun γ hγ => I1 enc k w β n d' os (hS γ hγ) (fun q => hβ.2 (q ▸ hγ))) (fun _ h => h)
end
end Go.Lift
namespace Go.Lift
open Go.RowKit Go.Shelf
section
variable {α : Type}
def Ti (cmp : α × α → Option Int) (x : α) : List α → List α
 | [] => [x]
 | y :: ys => match cmp (x, y) with
  | some a => if a ≤ 0 then x :: y :: ys else y :: Ti cmp x ys
  | none => x :: y :: ys
def Tn (cmp : α × α → Option Int) (xs : List α) : List α := xs.foldr (Ti cmp) []
def UG (cmp : α × α → Option Int) (bq : α → α → Bool) (y z : α) : Bool := match cmp (y, z), cmp (z, y) with
 | some a, some b => (decide (a < 0) && decide (0 < b)) || (bq y z && decide (a = 0) && decide (b = 0))
 | _, _ => false
def ZT (cmp : α × α → Option Int) (bq : α → α → Bool) : List α → Bool
 | [] => true
 | y :: ys => (match cmp (y, y) with | some a => decide (a = 0) | none => false) && ys.all (UG cmp bq y) && ZT cmp bq ys
def OJ (cmp : α × α → Option Int) (bq : α → α → Bool) (xs : List α) : Option (List α) :=
 if ZT cmp bq (Tn cmp xs) && decide (xs.length < 4611686018427387904) then some (Tn cmp xs) else none
theorem Ns (cmp : α × α → Option Int) (x : α) : ∀ l : List α, (Ti cmp x l).Perm (x :: l)
 | [] => List.Perm.refl _
 | y :: ys => by
  unfold Ti
  split
  ·split
   ·exact List.Perm.refl _
   ·exact ((Ns cmp x ys).cons y).trans (List.Perm.swap x y ys)
  ·exact List.Perm.refl _
theorem Ln (cmp : α × α → Option Int) : ∀ l : List α, (Tn cmp l).Perm l
 | [] => List.Perm.refl _
 | x :: l => (Ns cmp x (Tn cmp l)).trans ((Ln cmp l).cons x)
theorem WD {cmp : α × α → Option Int} {bq : α → α → Bool} (hq : ∀ x y, bq x y = true → x = y) {y z : α} (h : UG cmp bq y z = true) :
  ∃ a b, cmp (y, z) = some a ∧ cmp (z, y) = some b ∧ (TD (fun x y => (cmp (x, y)).getD 0) y z ∨ y = z) := by
 unfold UG at h
 split at h
 ·rename_i a b e1 e2
  refine ⟨a, b, e1, e2, ?_⟩
  rw [zF6] at h
  rcases h with h | h
  ·rw [zA4] at h
   exact .inl ⟨by show (cmp (y, z)).getD 0 < 0; rw [e1]; exact of_decide_eq_true h.1, by show 0 < (cmp (z, y)).getD 0; rw [e2]; exact of_decide_eq_true h.2⟩
  ·rw [zA4, zA4] at h
   exact .inr (hq _ _ h.1.1)
 ·cases h
theorem UB {cmp : α × α → Option Int} {bq : α → α → Bool} (hq : ∀ x y, bq x y = true → x = y) : ∀ {l : List α}, ZT cmp bq l = true →
  (∀ x y, x ∈ l → y ∈ l → cmp (x, y) = some ((cmp (x, y)).getD 0)) ∧ Mm (fun x y => (cmp (x, y)).getD 0) (· ∈ l) ∧ l.Pairwise (fun x y => ¬ (cmp (y, x)).getD 0 < 0)
 | [], _ => ⟨fun x y h => by simp at h, ⟨fun x h => by simp at h, fun x y h => by simp at h, fun x y z h => by simp at h⟩, List.Pairwise.nil⟩
 | y0 :: ys, h => by
  unfold ZT at h
  rw [zA4, zA4, zA5] at h
  obtain ⟨⟨h0, h1⟩, h2⟩ := h
  obtain ⟨i1, i2, i3⟩ := UB hq h2
  have hs : cmp (y0, y0) = some 0 := by
   split at h0
   ·rename_i a e; rw [e, of_decide_eq_true h0]
   ·cases h0
  have hp := fun z hz => WD hq (h1 z hz)
  have self : ∀ x, x ∈ y0 :: ys → (cmp (x, x)).getD 0 = 0 := fun x hx => by
   rcases zB0.1 hx with e | e
   ·subst e; rw [hs]; rfl
   ·exact i2.self x e
  have asy : ∀ x z, TD (fun x y => (cmp (x, y)).getD 0) x z → TD (fun x y => (cmp (x, y)).getD 0) z x → False := fun x z a b => Mm.asym a b
  have first : ∀ z, z ∈ y0 :: ys → y0 = z ∨ TD (fun x y => (cmp (x, y)).getD 0) y0 z := fun z hz => by
   rcases zB0.1 hz with e | e
   ·exact .inl e.symm
   ·obtain ⟨a, b, _, _, g⟩ := hp z e; exact g.symm
  refine ⟨fun x y hx hy => ?_, ⟨self, fun x y hx hy => ?_, fun x y z hx hy hz a b => ?_⟩, zD3.2 ⟨fun z hz => ?_, i3⟩⟩
  ·rcases zB0.1 hx with e | e
   ·subst e
    rcases zB0.1 hy with f | f
    ·subst f; rw [hs]; rfl
    ·obtain ⟨a, b, g, _⟩ := hp y f; rw [g]; rfl
   ·rcases zB0.1 hy with f | f
    ·subst f; obtain ⟨a, b, _, g, _⟩ := hp x e; rw [g]; rfl
    ·exact i1 x y e f
  ·rcases zB0.1 hx with e | e
   ·subst e; rcases first y hy with f | f
    ·exact .inl f
    ·exact .inr (.inl f)
   ·rcases zB0.1 hy with f | f
    ·subst f; rcases first x hx with g | g
     ·exact .inl g.symm
     ·exact .inr (.inr g)
    ·exact i2.tri x y e f
  ·have nofirst : ∀ u, u ∈ y0 :: ys → TD (fun x y => (cmp (x, y)).getD 0) u y0 → False := fun u hu a => by
    rcases first u hu with f | f
    ·subst f; exact asy _ _ a a
    ·exact asy _ _ a f
   rcases zB0.1 hy with f | f
   ·subst f; exact (nofirst x hx a).elim
   rcases zB0.1 hz with g | g
   ·subst g; exact (nofirst y hy b).elim
   rcases zB0.1 hx with e | e
   ·subst e
    rcases first z hz with q | q
    ·subst q; exact (asy _ _ a b).elim
    ·exact q
   ·exact i2.trans x y z e f g a b
  ·rcases first z (zJ3 _ hz) with f | f
   ·subst f; rw [hs]; simp
   ·have := f.2; simp only at this; omega
theorem Wy {cmp : α × α → Option Int} {bq : α → α → Bool} (hq : ∀ x y, bq x y = true → x = y) {xs ys : List α} (h : OJ cmp bq xs = some ys) :
  (∀ x y, x ∈ xs → y ∈ xs → cmp (x, y) = some ((cmp (x, y)).getD 0)) ∧ Mm (fun x y => (cmp (x, y)).getD 0) (· ∈ xs) ∧ ys.Perm xs ∧ ys.Pairwise (fun x y => ¬ (cmp (y, x)).getD 0 < 0) ∧ xs.length < 4611686018427387904 := by
 unfold OJ at h
 split at h
 ·rename_i hc
  rw [zA4] at hc
  cases h
  have hp := Ln cmp xs
  obtain ⟨h1, h2, h3⟩ := UB hq hc.1
  have hm : ∀ x, x ∈ xs → x ∈ Tn cmp xs := fun x hx => hp.mem_iff.2 hx
  exact ⟨fun x y hx hy => h1 x y (hm x hx) (hm y hy), ⟨fun x hx => h2.self x (hm x hx), fun x y hx hy => h2.tri x y (hm x hx) (hm y hy), fun x y z hx hy hz => h2.trans x y z (hm x hx) (hm y hy) (hm z hz)⟩, hp, h3, of_decide_eq_true hc.2⟩
 ·cases h
theorem T5 {P : Program} {ρ : Ren} (L : Go.Proofs.SlLaysF0.n6 P ρ) (k : Nat) (aE : ∀ w, (isAgg (ρ.t 24)).run P w = .ok true w) (zE : ∀ w, (Go.sizeOf (ρ.t 24)).run P w = .ok k w) {e : α → List T} (he : Vq e) {bq : α → α → Bool} (hq : ∀ x y, bq x y = true → x = y) {cmp : α × α → Option Int} {xs ys : List α} (h : OJ cmp bq xs = some ys) :
  Dy P (ρ.f 6) [.e (.one (.own 90000)), .e (.one (.clo (HJ (Vm true e true e) (fun n => .val (.int .i64 n)) cmp)))] [(.vec k (xs.map e), .vec k (ys.map e))] [] (.tup []) := by
 obtain ⟨h1, h2, h3, h4, h5⟩ := Wy hq h
 refine Tv L k aE zE (c := fun x y => (cmp (x, y)).getD 0) (fun x y hx hy => ?_) h2 h3 h4 h5
 exact Jy (ea := Vm true e true e) (er := fun n => T.val (.int .i64 n)) (QF true e true e he he) (x := (x, y)) (h1 x y hx hy)
end
end Go.Lift
namespace Go.Lift
open Go.RowKit Go.ChangeShapes Go.WideShapes
variable {P : Program} {X : Im} {ops : Array Oper}
section run
variable {dr : Bool} {Q : St → Prop} {r i : Nat} {st : St} {log : List (Nat × CM)} {o : Oper} {gs : List (Operand × D)}
end run
end Go.Lift
namespace Go.Lift
open Go.RowKit Go.Shelf
end Go.Lift
namespace Go.Lift
open Go.RowKit
variable {P : Program} {X : Im}
end Go.Lift
namespace Go.Lift
open Go.RowKit
variable {P : Program} {X : Im} {ops : Array Oper}
section run
variable {dr : Bool} {Q : St → Prop} {r i : Nat} {st : St} {log : List (Nat × CM)} {o : Oper} {gs : List (Operand × D)}
end run
end Go.Lift
namespace Go.Lift
open Go.RowKit Go.Shelf
end Go.Lift
namespace Go.Lift
open Go.RowKit Go.Shelf
section
variable {P : Program} {ρ : Ren} {α : Type}
end
end Go.Lift
namespace Go.Lift
open Go.RowKit Go.Shelf
variable {P : Program} {X : Im} {ops : Array Oper}
end Go.Lift
namespace Go.Lift
open Go.RowKit Go.Shelf
variable {P : Program} {X : Im} {ops : Array Oper} {dr : Bool} {Q : St → Prop} {r i : Nat} {st : St} {log : List (Nat × CM)} {gs : List (Operand × D)}
end Go.Lift
namespace Go.Lift
def Ap (n : Int) : List T := [.val (.int .i64 n)]
def C8 (n : Int) : List T := [.val (.int .u8 n)]
def cx (n : Int) : List T := [.val (.int .u16 n)]
abbrev Ws (n : Int) : T := .val (.int .i64 n)
abbrev tB (b : Bool) : T := .val (.bool b)
def eB (b : Bool) : List T := [.val (.bool b)]
def HB {α : Type} (f : α → List T) (xs : List α) : List T := [.sl (xs.map f)]
theorem Tp : Vq Ap := ⟨by intro x y h; simpa [Ap] using h⟩
theorem Z9 : Vq C8 := ⟨by intro x y h; simpa [C8] using h⟩
theorem ci : Vq eB := ⟨by intro x y h; simpa [eB] using h⟩
theorem aX {α : Type} {f : α → List T} (h : Vq f) : Vq (HB f) := ⟨by intro x y hx; simp only [HB, List.cons.injEq, T.sl.injEq, and_true] at hx; exact Mj h.inj _ _ hx⟩
structure Hh where
 ff : Int
 fg : Int
 fm : Int
 ft : Bool
 fA : Int
 fB : Int
def GM (x : Hh) : List T := [.val (.int .u8 x.ff), .val (.int .u8 x.fg), .val (.int .u8 x.fm), .val (.bool x.ft), .val (.int .u16 x.fA), .val (.int .u16 x.fB)]
structure BJ where
 fb : List Int
 fh : List Int
 fi : List Int
 fw : List Hh
def Mz (x : BJ) : List T := [.sl (x.fb.map C8), .sl (x.fh.map C8), .sl (x.fi.map C8), .sl (x.fw.map GM)]
structure An where
 ff : Int
 fg : Int
 fm : Int
 ft : Bool
 fk : List (List Bool)
 fo : List (List Bool)
def AQ (x : An) : List T := [.val (.int .i64 x.ff), .val (.int .i64 x.fg), .val (.int .i64 x.fm), .val (.bool x.ft), .sl (x.fk.map (HB eB)), .sl (x.fo.map (HB eB))]
structure Aa where
 fb : List Int
 fh : List Int
 fi : List Int
 fc : List An
structure Ab where
 fd : List Int
 fa : List Int
 fe : List Int
def Ar (x : Ab) : List T := [.sl (x.fd.map Ap), .sl (x.fa.map Ap), .sl (x.fe.map C8)]
theorem IT : Vq Ar := ⟨by
 rintro ⟨a1, a2, a3⟩ ⟨b1, b2, b3⟩ h
 simp only [Ar, List.cons.injEq, T.sl.injEq, and_true] at h
 obtain ⟨h1, h2, h3⟩ := h
 have h1 := Mj Tp.inj _ _ h1
 subst h1
 have h2 := Mj Tp.inj _ _ h2
 subst h2
 have h3 := Mj Z9.inj _ _ h3
 subst h3
 rfl⟩
def KU (a b : Ab) : Bool := decide (a.fd = b.fd) && decide (a.fa = b.fa) && decide (a.fe = b.fe)
theorem R5 {a b : Ab} (h : KU a b = true) : a = b := by
 cases a; cases b; simp only [KU, zA4, decide_eq_true_eq] at h
 obtain ⟨⟨h1, h2⟩, h3⟩ := h
 subst h1
 subst h2
 subst h3
 rfl
structure Ad where
 fr : Int
 fq : Int
 fu : Int
def Ao (x : Ad) : List T := [.val (.int .i64 x.fr), .val (.int .i64 x.fq), .val (.int .i64 x.fu)]
theorem O5 : Vq Ao := ⟨by
 rintro ⟨a1, a2, a3⟩ ⟨b1, b2, b3⟩ h
 simp only [Ao, List.cons.injEq, T.val.injEq, Value.int.injEq, and_true, true_and] at h
 obtain ⟨h1, h2, h3⟩ := h
 subst h1
 subst h2
 subst h3
 rfl⟩
def G7 (a b : Ad) : Bool := decide (a.fr = b.fr) && decide (a.fq = b.fq) && decide (a.fu = b.fu)
theorem M0 {a b : Ad} (h : G7 a b = true) : a = b := by
 cases a; cases b; simp only [G7, zA4, decide_eq_true_eq] at h
 obtain ⟨⟨h1, h2⟩, h3⟩ := h
 subst h1
 subst h2
 subst h3
 rfl
structure Ah where
 ff : Int
 fj : Int
 fp : Int
def AM (x : Ah) : List T := [.val (.int .i64 x.ff), .val (.int .i64 x.fj), .val (.int .i64 x.fp)]
theorem OI : Vq AM := ⟨by
 rintro ⟨a1, a2, a3⟩ ⟨b1, b2, b3⟩ h
 simp only [AM, List.cons.injEq, T.val.injEq, Value.int.injEq, and_true, true_and] at h
 obtain ⟨h1, h2, h3⟩ := h
 subst h1
 subst h2
 subst h3
 rfl⟩
structure BD where
 fy : Ah
 fC : Ab
 fv : Ad
def D5 (x : BD) : List T := [.val (.int .i64 x.fy.ff), .val (.int .i64 x.fy.fj), .val (.int .i64 x.fy.fp), .sl (x.fC.fd.map Ap), .sl (x.fC.fa.map Ap), .sl (x.fC.fe.map C8), .val (.int .i64 x.fv.fr), .val (.int .i64 x.fv.fq), .val (.int .i64 x.fv.fu)]
open IntKind renaming wrap → wI
def Em (_ : Nat) (p0 : List Int) (p1 : Int) : Option Int :=
 AP ((decide (p1 < (p0.length : Int))))
  ((Bx p0 p1).bind fun v2 =>
  some ((wI .i64 v2)))
  (some 0)
def A5 (_ : Nat) (p0 : An) : Option Bool :=
 Bf (fun (v1 : Bool) =>
  some v1)
 fun j1 =>
 AP ((p0.ff == 3))
  (j1 true)
  (j1 (p0.ff == 4))
def Ct (N : Nat) (p1 : Int) (p2 : Int) (p3 : Bool) (v1 : (List (List Bool)) × Int) (j4 : ((List Bool)) → Option ((List (List Bool)))) : Nat → ((List Bool) × Int) → Option ((List (List Bool)))
 | 0, _ => none
 | n4 + 1, v4 =>
  AP ((decide (v4.2 < p1)))
   (Bf (fun (v7 : (List Bool)) =>
    Ct N p1 p2 p3 v1 j4 n4 (v7, (wI .i64 (v4.2 + 1))))
   fun j7 =>
   AP p3
    (AP ((v1.2 == v4.2))
     ((DT (v4.1.length + (([true] : List Bool)).length ≤ Dw)).bind fun _ =>
     j7 (v4.1 ++ (([true] : List Bool))))
     ((DT (0 ≤ (wI .i64 ((wI .i64 (3 * v1.2)) + v4.2)))).bind fun _ =>
     (DT (v4.1.length + (([((zB5 ((FI .u16 p2 ((wI .i64 ((wI .i64 (3 * v1.2)) + v4.2))))) 2) == 0)] : List Bool)).length ≤ Dw)).bind fun _ =>
     j7 (v4.1 ++ (([((zB5 ((FI .u16 p2 ((wI .i64 ((wI .i64 (3 * v1.2)) + v4.2))))) 2) == 0)] : List Bool)))))
    ((DT (0 ≤ (wI .i64 ((wI .i64 (3 * v1.2)) + v4.2)))).bind fun _ =>
    (DT (v4.1.length + (([((zB5 ((FI .u16 p2 ((wI .i64 ((wI .i64 (3 * v1.2)) + v4.2))))) 2) == 0)] : List Bool)).length ≤ Dw)).bind fun _ =>
    j7 (v4.1 ++ (([((zB5 ((FI .u16 p2 ((wI .i64 ((wI .i64 (3 * v1.2)) + v4.2))))) 2) == 0)] : List Bool)))))
   (j4 v4.1)
def Cw (N : Nat) (p0 : Int) (p1 : Int) (p2 : Int) (p3 : Bool) (j1 : ((List (List Bool))) → Option ((List (List Bool)))) : Nat → ((List (List Bool)) × Int) → Option ((List (List Bool)))
 | 0, _ => none
 | n1 + 1, v1 =>
  AP ((decide (v1.2 < p0)))
   (Ct N p1 p2 p3 v1 (fun (v5 : (List Bool)) =>
    (DT (v1.1.length + (([v5] : List (List Bool))).length ≤ Dw)).bind fun _ =>
    Cw N p0 p1 p2 p3 j1 n1 (v1.1 ++ (([v5] : List (List Bool))), (wI .i64 (v1.2 + 1)))) N (([] : List Bool), 0))
   (j1 v1.1)
def En (N : Nat) (p0 : Int) (p1 : Int) (p2 : Int) (p3 : Bool) : Option ((List (List Bool))) :=
 Cw N p0 p1 p2 p3 (fun (v2 : (List (List Bool))) =>
  some v2) N (([] : List (List Bool)), 0)
def CS (N : Nat) (p0 : BJ) (j4 : ((List Int) × (List Int) × (List Int)) → Option (Aa × Bool)) : Nat → ((List Int) × (List Int) × (List Int) × Int) → Option (Aa × Bool)
 | 0, _ => none
 | n4 + 1, v4 =>
  AP ((decide (v4.2.2.2 < (p0.fb.length : Int))))
   ((Bx p0.fb v4.2.2.2).bind fun v7 =>
   (DT (v4.1.length + (([(wI .i64 (1 + (wI .i64 ((zB5 v7 3)))))] : List Int)).length ≤ Dw)).bind fun _ =>
   (Em N p0.fh v4.2.2.2).bind fun v9 =>
   (DT ((wI .i64 (1 + (wI .i64 ((zB5 v7 3))))) ≠ 0)).bind fun _ =>
   (DT (v4.2.1.length + (([(zB5 v9 ((wI .i64 (1 + (wI .i64 ((zB5 v7 3)))))))] : List Int)).length ≤ Dw)).bind fun _ =>
   (Em N p0.fi v4.2.2.2).bind fun v12 =>
   (DT ((wI .i64 (1 + (wI .i64 ((zB5 v7 3))))) ≠ 0)).bind fun _ =>
   (DT (v4.2.2.1.length + (([(zB5 v12 ((wI .i64 (1 + (wI .i64 ((zB5 v7 3)))))))] : List Int)).length ≤ Dw)).bind fun _ =>
   CS N p0 j4 n4 (v4.1 ++ (([(wI .i64 (1 + (wI .i64 ((zB5 v7 3)))))] : List Int)), v4.2.1 ++ (([(zB5 v9 ((wI .i64 (1 + (wI .i64 ((zB5 v7 3)))))))] : List Int)), v4.2.2.1 ++ (([(zB5 v12 ((wI .i64 (1 + (wI .i64 ((zB5 v7 3)))))))] : List Int)), (wI .i64 (v4.2.2.2 + 1))))
   (j4 (v4.1, v4.2.1, v4.2.2.1))
def BE (N : Nat) (p0 : BJ) (v5 : (List Int) × (List Int) × (List Int)) (j15 : ((List An)) → Option (Aa × Bool)) : Nat → ((List An) × Int) → Option (Aa × Bool)
 | 0, _ => none
 | n15 + 1, v15 =>
  Bf (fun (v17 : Bool) =>
   AP v17
    ((Bx p0.fw v15.2).bind fun v20 =>
    (DT ((v5.1.length : Int) ≠ 0)).bind fun _ =>
    (DT ((v5.1.length : Int) ≠ 0)).bind fun _ =>
    Bf (fun (v23 : Bool) =>
     (Bx v5.1 ((zB5 ((wI .i64 v20.fg)) ((v5.1.length : Int))))).bind fun v26 =>
     (Bx v5.1 ((zB5 ((wI .i64 v20.fm)) ((v5.1.length : Int))))).bind fun v27 =>
     (En N v26 v27 v20.fA false).bind fun v28 =>
     Bf (fun (v29 : (List (List Bool))) =>
      (DT (v15.1.length + (([(An.mk ((wI .i64 (1 + (wI .i64 ((zB5 v20.ff 4)))))) ((zB5 ((wI .i64 v20.fg)) ((v5.1.length : Int)))) ((zB5 ((wI .i64 v20.fm)) ((v5.1.length : Int)))) v23 v28 v29)] : List An)).length ≤ Dw)).bind fun _ =>
      BE N p0 v5 j15 n15 (v15.1 ++ (([(An.mk ((wI .i64 (1 + (wI .i64 ((zB5 v20.ff 4)))))) ((zB5 ((wI .i64 v20.fg)) ((v5.1.length : Int)))) ((zB5 ((wI .i64 v20.fm)) ((v5.1.length : Int)))) v23 v28 v29)] : List An)), (wI .i64 (v15.2 + 1))))
     fun j29 =>
     AP (((wI .i64 (1 + (wI .i64 ((zB5 v20.ff 4))))) == 4))
      ((Bx v5.1 ((zB5 ((wI .i64 v20.fg)) ((v5.1.length : Int))))).bind fun v31 =>
      (Bx v5.1 ((zB5 ((wI .i64 v20.fg)) ((v5.1.length : Int))))).bind fun v32 =>
      (En N v31 v32 v20.fB true).bind fun v33 =>
      j29 v33)
      (j29 ([] : List (List Bool))))
    fun j23 =>
    AP v20.ft
     ((A5 N ((An.mk ((wI .i64 (1 + (wI .i64 ((zB5 v20.ff 4)))))) ((zB5 ((wI .i64 v20.fg)) ((v5.1.length : Int)))) ((zB5 ((wI .i64 v20.fm)) ((v5.1.length : Int)))) false (([] : List (List Bool))) (([] : List (List Bool)))))).bind fun v25 =>
     j23 (!v25))
     (j23 false))
    (j15 v15.1))
  fun j17 =>
  AP ((decide (v15.2 < (p0.fw.length : Int))))
   (j17 (decide (0 < (v5.1.length : Int))))
   (j17 false)
def Fy (N : Nat) (p0 : BJ) : Option (Aa × Bool) :=
 Bf (fun (v1 : Bool) =>
  AP v1
   (some ((Aa.mk (([] : List Int)) (([] : List Int)) (([] : List Int)) (([] : List An))), false))
   (CS N p0 (fun (v5 : (List Int) × (List Int) × (List Int)) =>
    BE N p0 v5 (fun (v16 : (List An)) =>
     some ((Aa.mk v5.1 v5.2.1 v5.2.2 v16), true)) N (([] : List An), 0)) N (([] : List Int), ([] : List Int), ([] : List Int), 0)))
 fun j1 =>
 AP ((decide (3 < (p0.fb.length : Int))))
  (j1 true)
  (j1 (decide (4 < (p0.fw.length : Int))))
def CC (N : Nat) (p0 : List (List Bool)) (p1 : Int) (p2 : Int) (j2 : Unit → Option Bool) : Nat → Int → Option Bool
 | 0, _ => none
 | n2 + 1, v2 =>
  AP ((decide (v2 < p1)))
   ((Bx p0 v2).bind fun v5 =>
   AP (((v5.length : Int) != p2))
    (some false)
    (CC N p0 p1 p2 j2 n2 (wI .i64 (v2 + 1))))
   (j2 ())
def DO (N : Nat) (p0 : List (List Bool)) (p1 : Int) (p2 : Int) : Option Bool :=
 AP (((p0.length : Int) != p1))
  (some false)
  (CC N p0 p1 p2 (fun (_ : Unit) =>
   some true) N 0)
def B8 (N : Nat) (p1 : An) (j22 : Unit → Option Int) : Nat → Int → Option Int
 | 0, _ => none
 | n22 + 1, v22 =>
  AP ((decide (v22 < (p1.fo.length : Int))))
   ((Bx p1.fo v22).bind fun v25 =>
   (Bx v25 v22).bind fun v26 =>
   AP ((!v26))
    (some 1)
    (B8 N p1 j22 n22 (wI .i64 (v22 + 1))))
   (j22 ())
def ER (N : Nat) (p0 : Aa) (p1 : An) : Option Int :=
 Bf (fun (v1 : Bool) =>
  AP v1
   (some 1)
   (Bf (fun (v7 : Bool) =>
    AP v7
     (some 4)
     ((Bx p0.fb p1.fg).bind fun v12 =>
     (Bx p0.fb p1.fm).bind fun v13 =>
     (DO N p1.fk v12 v13).bind fun v14 =>
     AP ((!v14))
      (some 6)
      (AP ((p1.ff != 4))
       (AP (((p1.fo.length : Int) != 0))
        (some 6)
        (some 0))
       ((Bx p0.fb p1.fg).bind fun v18 =>
       (Bx p0.fb p1.fg).bind fun v19 =>
       (DO N p1.fo v18 v19).bind fun v20 =>
       AP ((!v20))
        (some 6)
        (B8 N p1 (fun (_ : Unit) =>
         some 0) N 0)))))
   fun j7 =>
   AP ((decide (p1.fg < 0)))
    (j7 true)
    (AP ((decide ((p0.fb.length : Int) ≤ p1.fg)))
     (j7 true)
     (AP ((decide (p1.fm < 0)))
      (j7 true)
      (j7 (decide ((p0.fb.length : Int) ≤ p1.fm)))))))
 fun j1 =>
 AP ((decide (p1.ff < 1)))
  (j1 true)
  (AP ((decide (4 < p1.ff)))
   (j1 true)
   (AP p1.ft
    ((A5 N p1).bind fun v5 =>
    j1 v5)
    (j1 false)))
def Bm (N : Nat) (p0 : Aa) (j7 : Unit → Option Int) : Nat → Int → Option Int
 | 0, _ => none
 | n7 + 1, v7 =>
  AP ((decide (v7 < (p0.fb.length : Int))))
   ((Bx p0.fb v7).bind fun v10 =>
   Bf (fun (v11 : Bool) =>
    AP v11
     (some 7)
     (Bm N p0 j7 n7 (wI .i64 (v7 + 1))))
   fun j11 =>
   AP ((decide (v10 < 1)))
    (j11 true)
    (AP ((decide (6 < v10)))
     (j11 true)
     ((Bx p0.fh v7).bind fun v14 =>
     AP ((decide (v14 < 0)))
      (j11 true)
      ((Bx p0.fh v7).bind fun v16 =>
      AP ((decide (v10 ≤ v16)))
       (j11 true)
       ((Bx p0.fi v7).bind fun v18 =>
       AP ((decide (v18 < 0)))
        (j11 true)
        ((Bx p0.fi v7).bind fun v20 =>
        j11 (decide (v10 ≤ v20))))))))
   (j7 ())
def Bb (N : Nat) (p0 : Aa) (j22 : Unit → Option Int) : Nat → Int → Option Int
 | 0, _ => none
 | n22 + 1, v22 =>
  AP ((decide (v22 < (p0.fc.length : Int))))
   ((Bx p0.fc v22).bind fun v25 =>
   (ER N p0 v25).bind fun v26 =>
   AP ((v26 != 0))
    (some v26)
    (Bb N p0 j22 n22 (wI .i64 (v22 + 1))))
   (j22 ())
def Bn (N : Nat) (p0 : Aa) : Option Int :=
 Bf (fun (v1 : Bool) =>
  AP v1
   (some 3)
   (Bf (fun (v4 : Bool) =>
    AP v4
     (some 6)
     (Bm N p0 (fun (_ : Unit) =>
      Bb N p0 (fun (_ : Unit) =>
       some 0) N 0) N 0))
   fun j4 =>
   AP (((p0.fh.length : Int) != (p0.fb.length : Int)))
    (j4 true)
    (j4 ((p0.fi.length : Int) != (p0.fb.length : Int)))))
 fun j1 =>
 AP ((decide (6 < (p0.fb.length : Int))))
  (j1 true)
  (j1 (decide (12 < (p0.fc.length : Int))))
def Cl (N : Nat) (p0 : Aa) (j3 : ((List Int) × (List Int)) → Option (Ab × Int)) : Nat → ((List Int) × (List Int) × Int) → Option (Ab × Int)
 | 0, _ => none
 | n3 + 1, v3 =>
  AP ((decide (v3.2.2 < (p0.fb.length : Int))))
   ((Bx p0.fh v3.2.2).bind fun v6 =>
   (DT (v3.1.length + (([v6] : List Int)).length ≤ Dw)).bind fun _ =>
   (DT (v3.2.1.length + (([(-1)] : List Int)).length ≤ Dw)).bind fun _ =>
   Cl N p0 j3 n3 (v3.1 ++ (([v6] : List Int)), v3.2.1 ++ (([(-1)] : List Int)), (wI .i64 (v3.2.2 + 1))))
   (j3 (v3.1, v3.2.1))
def Bk (N : Nat) (p0 : Aa) (j9 : ((List Int)) → Option (Ab × Int)) : Nat → ((List Int) × Int) → Option (Ab × Int)
 | 0, _ => none
 | n9 + 1, v9 =>
  AP ((decide (v9.2 < (p0.fc.length : Int))))
   (Bf (fun (v12 : Int) =>
    (DT (v9.1.length + (([v12] : List Int)).length ≤ Dw)).bind fun _ =>
    Bk N p0 j9 n9 (v9.1 ++ (([v12] : List Int)), (wI .i64 (v9.2 + 1))))
   fun j12 =>
   (Bx p0.fc v9.2).bind fun v13 =>
   (A5 N v13).bind fun v14 =>
   AP v14
    ((Bx p0.fc v9.2).bind fun v16 =>
    (Bx p0.fh v16.fg).bind fun v17 =>
    (DT (0 ≤ v17)).bind fun _ =>
    j12 (Ee .u8 1 v17))
    (j12 0))
   (j9 v9.1)
def EM (N : Nat) (p0 : Aa) : Option (Ab × Int) :=
 (Bn N p0).bind fun v1 =>
 AP ((v1 != 0))
  (some ((Ab.mk (([] : List Int)) (([] : List Int)) (([] : List Int))), v1))
  (Cl N p0 (fun (v4 : (List Int) × (List Int)) =>
   Bk N p0 (fun (v10 : (List Int)) =>
    some ((Ab.mk v4.1 v4.2 v10), 0)) N (([] : List Int), 0)) N (([] : List Int), ([] : List Int), 0))
def Ew (_ : Nat) (p0 : Ab) : Option Ab :=
 (DT ((([] : List Int)).length + p0.fd.length ≤ Dw)).bind fun _ =>
 (DT ((([] : List Int)).length + p0.fa.length ≤ Dw)).bind fun _ =>
 (DT ((([] : List Int)).length + p0.fe.length ≤ Dw)).bind fun _ =>
 some ((Ab.mk ((([] : List Int)) ++ p0.fd) ((([] : List Int)) ++ p0.fa) ((([] : List Int)) ++ p0.fe)))
def CG (N : Nat) (p0 : Ab) (j1 : Int → Option ((List Ab))) : Nat → (Int × Int) → Option ((List Ab))
 | 0, _ => none
 | n1 + 1, v1 =>
  AP ((decide (v1.2 < (p0.fa.length : Int))))
   (Bf (fun (v4 : Int) =>
    CG N p0 j1 n1 (v4, (wI .i64 (v1.2 + 1))))
   fun j4 =>
   (Bx p0.fa v1.2).bind fun v5 =>
   AP ((decide (0 ≤ v5)))
    (j4 (wI .i64 (v1.1 + 1)))
    (j4 v1.1))
   (j1 v1.1)
def B2 (N : Nat) (p0 : Ab) (v7 : (List Ab) × Int) (j12 : ((List Int)) → Option ((List Ab))) : Nat → ((List Int) × Int × Int) → Option ((List Ab))
 | 0, _ => none
 | n12 + 1, v12 =>
  AP ((decide (v12.2.2 < (p0.fa.length : Int))))
   (Bf (fun (v15 : (List Int) × Int) =>
    B2 N p0 v7 j12 n12 (v15.1, v15.2, (wI .i64 (v12.2.2 + 1))))
   fun j15 =>
   (Bx p0.fa v12.2.2).bind fun v16 =>
   AP ((decide (v16 < 0)))
    (j15 (v12.1, v12.2.1))
    (Bf (fun (v18 : (List Int)) =>
     j15 (v18, (wI .i64 (v12.2.1 + 1))))
    fun j18 =>
    (DT (0 ≤ v12.2.1)).bind fun _ =>
    AP (((zB5 ((FI .i64 v7.2 v12.2.1)) 2) == 1))
     ((Bx v12.1 v12.2.2).bind fun _ =>
     j18 (v12.1.set ((v12.2.2).toNat) ((-1))))
     (j18 v12.1)))
   (j12 v12.1)
def BC (N : Nat) (p0 : Ab) (v2 : Int) (j7 : ((List Ab)) → Option ((List Ab))) : Nat → ((List Ab) × Int) → Option ((List Ab))
 | 0, _ => none
 | n7 + 1, v7 =>
  (DT (0 ≤ v2)).bind fun _ =>
  AP ((decide (v7.2 < (Ee .i64 1 v2))))
   ((Ew N p0).bind fun v11 =>
   B2 N p0 v7 (fun (v13 : (List Int)) =>
    (DT (v7.1.length + (([(Ab.mk v11.fd v13 v11.fe)] : List Ab)).length ≤ Dw)).bind fun _ =>
    BC N p0 v2 j7 n7 (v7.1 ++ (([(Ab.mk v11.fd v13 v11.fe)] : List Ab)), (wI .i64 (v7.2 + 1)))) N (v11.fa, 0, 0))
   (j7 v7.1)
def EA (N : Nat) (p0 : Ab) : Option ((List Ab)) :=
 CG N p0 (fun (v2 : Int) =>
  BC N p0 v2 (fun (v8 : (List Ab)) =>
   some v8) N (([] : List Ab), 0)) N (0, 0)
def B4 (_ : Nat) (p0 : Ab) (p1 : Int) : Option Int :=
 (Bx p0.fd p1).bind fun v1 =>
 (DT (0 ≤ v1)).bind fun _ =>
 Bf (fun (v3 : Int) =>
  some v3)
 fun j3 =>
 (Bx p0.fa p1).bind fun v4 =>
 AP ((decide (0 ≤ v4)))
  ((Bx p0.fa p1).bind fun v6 =>
  (DT (0 ≤ v6)).bind fun _ =>
  j3 (Pw .u8 ((Ee .u8 1 v1)) ((Ee .u8 1 v6))))
  (j3 (Ee .u8 1 v1))
def CD (_ : Nat) (p0 : Int) (p1 : Int) : Option Bool :=
 (DT (0 ≤ p1)).bind fun _ =>
 some (((GP .u8 ((FI .u8 p0 p1)) 1) == 1))
def Bo (N : Nat) (p0 : Aa) (p1 : Ab) (v1 : (List Ad) × Int) (v4 : An) (v10 : (List Ad) × Int) (j17 : ((List Ad) × Bool) → Option ((List Ad))) : Nat → ((List Ad) × Bool × Int) → Option ((List Ad))
 | 0, _ => none
 | n17 + 1, v17 =>
  (Bx p0.fb v4.fm).bind fun v19 =>
  AP ((decide (v17.2.2 < v19)))
   (Bf (fun (v21 : (List Ad) × Bool) =>
    Bo N p0 p1 v1 v4 v10 j17 n17 (v21.1, v21.2, (wI .i64 (v17.2.2 + 1))))
   fun j21 =>
   (B4 N p1 v4.fm).bind fun v22 =>
   (CD N v22 v17.2.2).bind fun v23 =>
   AP ((!v23))
    (j21 (v17.1, v17.2.1))
    (Bf (fun (v25 : Bool) =>
     Bf (fun (v29 : Bool) =>
      AP v29
       ((DT (v17.1.length + (([(Ad.mk v1.2 v10.2 v17.2.2)] : List Ad)).length ≤ Dw)).bind fun _ =>
       j21 (v17.1 ++ (([(Ad.mk v1.2 v10.2 v17.2.2)] : List Ad)), v25))
       (j21 (v17.1, v25)))
     fun j29 =>
     AP ((!v4.ft))
      ((Bx v4.fk v10.2).bind fun v31 =>
      (Bx v31 v17.2.2).bind fun v32 =>
      j29 (!v32))
      (j29 false))
    fun j25 =>
    AP v17.2.1
     (j25 true)
     ((Bx v4.fk v10.2).bind fun v27 =>
     (Bx v27 v17.2.2).bind fun v28 =>
     j25 v28)))
   (j17 (v17.1, v17.2.1))
def BN (N : Nat) (p0 : Aa) (p1 : Ab) (v1 : (List Ad) × Int) (v4 : An) (v6 : Int) (j10 : ((List Ad)) → Option ((List Ad))) : Nat → ((List Ad) × Int) → Option ((List Ad))
 | 0, _ => none
 | n10 + 1, v10 =>
  (Bx p0.fb v4.fg).bind fun v12 =>
  AP ((decide (v10.2 < v12)))
   (Bf (fun (v14 : (List Ad)) =>
    BN N p0 p1 v1 v4 v6 j10 n10 (v14, (wI .i64 (v10.2 + 1))))
   fun j14 =>
   (CD N v6 v10.2).bind fun v15 =>
   AP ((!v15))
    (j14 v10.1)
    (Bo N p0 p1 v1 v4 v10 (fun (v18 : (List Ad) × Bool) =>
     Bf (fun (v35 : Bool) =>
      AP v35
       ((DT (v18.1.length + (([(Ad.mk v1.2 v10.2 ((-1)))] : List Ad)).length ≤ Dw)).bind fun _ =>
       j14 (v18.1 ++ (([(Ad.mk v1.2 v10.2 ((-1)))] : List Ad))))
       (j14 v18.1))
     fun j35 =>
     AP v4.ft
      (j35 (!v18.2))
      (j35 false)) N (v10.1, false, 0)))
   (j10 v10.1)
def CJ (N : Nat) (p0 : Aa) (p1 : Ab) (j1 : ((List Ad)) → Option ((List Ad))) : Nat → ((List Ad) × Int) → Option ((List Ad))
 | 0, _ => none
 | n1 + 1, v1 =>
  AP ((decide (v1.2 < (p0.fc.length : Int))))
   ((Bx p0.fc v1.2).bind fun v4 =>
   (B4 N p1 v4.fg).bind fun v5 =>
   Bf (fun (v6 : Int) =>
    BN N p0 p1 v1 v4 v6 (fun (v11 : (List Ad)) =>
     CJ N p0 p1 j1 n1 (v11, (wI .i64 (v1.2 + 1)))) N (v1.1, 0))
   fun j6 =>
   (A5 N v4).bind fun v7 =>
   AP v7
    ((Bx p1.fe v1.2).bind fun v9 =>
    j6 v9)
    (j6 v5))
   (j1 v1.1)
def ES (N : Nat) (p0 : Aa) (p1 : Ab) : Option ((List Ad)) :=
 CJ N p0 p1 (fun (v2 : (List Ad)) =>
  some v2) N (([] : List Ad), 0)
def Ev (N : Nat) (p0 : Aa) (p1 : Ab) : Option Bool :=
 (ES N p0 p1).bind fun v1 =>
 some (((v1.length : Int) == 0))
def Cc (N : Nat) (p0 : Aa) (v1 : (List Ab)) (j2 : Unit → Option Bool) : Nat → Int → Option Bool
 | 0, _ => none
 | n2 + 1, v2 =>
  AP ((decide (v2 < (v1.length : Int))))
   ((Bx v1 v2).bind fun v5 =>
   (Ev N p0 v5).bind fun v6 =>
   AP ((!v6))
    (some false)
    (Cc N p0 v1 j2 n2 (wI .i64 (v2 + 1))))
   (j2 ())
def Df (N : Nat) (p0 : Aa) (p1 : Ab) : Option Bool :=
 (EA N p1).bind fun v1 =>
 Cc N p0 v1 (fun (_ : Unit) =>
  some true) N 0
def Cj (N : Nat) (p0 : Aa) (p1 : Ab) (j7 : Unit → Option Int) : Nat → Int → Option Int
 | 0, _ => none
 | n7 + 1, v7 =>
  AP ((decide (v7 < (p0.fb.length : Int))))
   (Bf (fun (v10 : Bool) =>
    AP v10
     (some 7)
     ((Bx p1.fd v7).bind fun v21 =>
     (Bx p1.fa v7).bind fun v22 =>
     AP ((v21 == v22))
      (some 1)
      (Cj N p0 p1 j7 n7 (wI .i64 (v7 + 1)))))
   fun j10 =>
   (Bx p1.fd v7).bind fun v11 =>
   AP ((decide (v11 < 0)))
    (j10 true)
    ((Bx p1.fd v7).bind fun v13 =>
    (Bx p0.fb v7).bind fun v14 =>
    AP ((decide (v14 ≤ v13)))
     (j10 true)
     ((Bx p1.fa v7).bind fun v16 =>
     AP ((decide (v16 < (-1))))
      (j10 true)
      ((Bx p1.fa v7).bind fun v18 =>
      (Bx p0.fb v7).bind fun v19 =>
      j10 (decide (v19 ≤ v18))))))
   (j7 ())
def B9 (N : Nat) (p0 : Aa) (p1 : Ab) (j24 : Unit → Option Int) : Nat → Int → Option Int
 | 0, _ => none
 | n24 + 1, v24 =>
  AP ((decide (v24 < (p0.fc.length : Int))))
   ((Bx p0.fc v24).bind fun v27 =>
   (Bx p0.fb v27.fg).bind fun v28 =>
   (DT (0 ≤ v28)).bind fun _ =>
   Bf (fun (v30 : Bool) =>
    AP v30
     (some 1)
     (B9 N p0 p1 j24 n24 (wI .i64 (v24 + 1))))
   fun j30 =>
   (A5 N v27).bind fun v31 =>
   AP ((!v31))
    ((Bx p1.fe v24).bind fun v33 =>
    AP ((v33 != 0))
     (j30 true)
     ((A5 N v27).bind fun v35 =>
     AP v35
      ((Bx p1.fe v24).bind fun v37 =>
      AP (((DC .u8 v37 ((wI .u8 ((Ee .u8 1 v28) - 1)))) != 0))
       (j30 true)
       ((B4 N p1 v27.fg).bind fun v39 =>
       (Bx p1.fe v24).bind fun v40 =>
       j30 ((DC .u8 v39 v40) != 0)))
      (j30 false)))
    ((A5 N v27).bind fun v41 =>
    AP v41
     ((Bx p1.fe v24).bind fun v43 =>
     AP (((DC .u8 v43 ((wI .u8 ((Ee .u8 1 v28) - 1)))) != 0))
      (j30 true)
      ((B4 N p1 v27.fg).bind fun v45 =>
      (Bx p1.fe v24).bind fun v46 =>
      j30 ((DC .u8 v45 v46) != 0)))
     (j30 false)))
   (j24 ())
def D7 (N : Nat) (p0 : Aa) (p1 : Ab) : Option Int :=
 (Bn N p0).bind fun v1 =>
 AP ((v1 != 0))
  (some v1)
  (Bf (fun (v3 : Bool) =>
   AP v3
    (some 6)
    (Cj N p0 p1 (fun (_ : Unit) =>
     B9 N p0 p1 (fun (_ : Unit) =>
      some 0) N 0) N 0))
  fun j3 =>
  AP (((p1.fd.length : Int) != (p0.fb.length : Int)))
   (j3 true)
   (AP (((p1.fa.length : Int) != (p0.fb.length : Int)))
    (j3 true)
    (j3 ((p1.fe.length : Int) != (p0.fc.length : Int)))))
def EI (_ : Nat) (p0 : Ah) : Option Bool :=
 Bf (fun (v1 : Bool) =>
  some v1)
 fun j1 =>
 AP ((decide (1 ≤ p0.ff)))
  (AP ((decide (p0.ff ≤ 4)))
   (AP ((decide (0 ≤ p0.fj)))
    (AP ((decide (0 ≤ p0.fp)))
     (AP ((p0.ff == 1))
      (j1 true)
      (j1 (p0.fp == 0)))
     (j1 false))
    (j1 false))
   (j1 false))
  (j1 false)
def B7 (N : Nat) (p0 : Aa) (p2 : Ah) (j12 : ((List Int)) → Option (Ab × Bool)) : Nat → ((List Int) × Int) → Option (Ab × Bool)
 | 0, _ => none
 | n12 + 1, v12 =>
  AP ((decide (v12.2 < (p0.fc.length : Int))))
   (Bf (fun (v15 : (List Int)) =>
    B7 N p0 p2 j12 n12 (v15, (wI .i64 (v12.2 + 1))))
   fun j15 =>
   Bf (fun (v16 : Bool) =>
    AP v16
     ((Bx v12.1 v12.2).bind fun v22 =>
     (DT (0 ≤ p2.fp)).bind fun _ =>
     (Bx v12.1 v12.2).bind fun _ =>
     j15 (v12.1.set ((v12.2).toNat) ((Pw .u8 v22 ((Ee .u8 1 p2.fp))))))
     (j15 v12.1))
   fun j16 =>
   (Bx p0.fc v12.2).bind fun v17 =>
   AP ((v17.fg == p2.fj))
    ((Bx p0.fc v12.2).bind fun v19 =>
    (A5 N v19).bind fun v20 =>
    j16 v20)
    (j16 false))
   (j12 v12.1)
def BO (N : Nat) (p0 : Aa) (p1 : Ab) (p2 : Ah) (v32 : An) (v35 : Int) (j38 : Unit → Option (Ab × Bool)) : Nat → Int → Option (Ab × Bool)
 | 0, _ => none
 | n38 + 1, v38 =>
  (Bx p0.fb v32.fg).bind fun v40 =>
  AP ((decide (v38 < v40)))
   (Bf (fun (v42 : Bool) =>
    Bf (fun (v47 : Bool) =>
     AP v47
      (some ((Ab.mk (([] : List Int)) (([] : List Int)) (([] : List Int))), false))
      (BO N p0 p1 p2 v32 v35 j38 n38 (wI .i64 (v38 + 1))))
    fun j47 =>
    AP v42
     (AP ((v32.ff == 4))
      ((Bx v32.fo v38).bind fun v50 =>
      (Bx p1.fd v32.fg).bind fun v51 =>
      (Bx v50 v51).bind fun v52 =>
      j47 (!v52))
      (j47 false))
     (j47 false))
   fun j42 =>
   (Bx p1.fe p2.fj).bind fun v43 =>
   (CD N v43 v38).bind fun v44 =>
   AP v44
    ((CD N v35 v38).bind fun v46 =>
    j42 (!v46))
    (j42 false))
   (j38 ())
def CQ (N : Nat) (p0 : Aa) (p1 : Ab) (p2 : Ah) : Option (Ab × Bool) :=
 (DT ((([] : List Int)).length + p1.fd.length ≤ Dw)).bind fun _ =>
 (DT ((([] : List Int)).length + p1.fa.length ≤ Dw)).bind fun _ =>
 (DT ((([] : List Int)).length + p1.fe.length ≤ Dw)).bind fun _ =>
 Bf (fun (v4 : (List Int) × (List Int) × (List Int)) =>
  some ((Ab.mk v4.1 v4.2.1 v4.2.2), true))
 fun j4 =>
 AP ((p2.ff == 1))
  (Bf (fun (v6 : Bool) =>
   AP v6
    (some ((Ab.mk (([] : List Int)) (([] : List Int)) (([] : List Int))), false))
    ((Bx ((([] : List Int)) ++ p1.fa) p2.fj).bind fun _ =>
    B7 N p0 p2 (fun (v13 : (List Int)) =>
     j4 ((([] : List Int)) ++ p1.fd, ((([] : List Int)) ++ p1.fa).set ((p2.fj).toNat) p2.fp, v13)) N ((([] : List Int)) ++ p1.fe, 0)))
  fun j6 =>
  (Bx p1.fa p2.fj).bind fun v7 =>
  AP ((decide (0 ≤ v7)))
   (j6 true)
   ((Bx p1.fd p2.fj).bind fun v9 =>
   j6 (p2.fp == v9)))
  (AP ((p2.ff == 2))
   ((Bx p1.fa p2.fj).bind fun v26 =>
   AP ((decide (v26 < 0)))
    (some ((Ab.mk (([] : List Int)) (([] : List Int)) (([] : List Int))), false))
    ((Bx p1.fa p2.fj).bind fun v28 =>
    (Bx ((([] : List Int)) ++ p1.fd) p2.fj).bind fun _ =>
    (Bx ((([] : List Int)) ++ p1.fa) p2.fj).bind fun _ =>
    j4 (((([] : List Int)) ++ p1.fd).set ((p2.fj).toNat) v28, ((([] : List Int)) ++ p1.fa).set ((p2.fj).toNat) ((-1)), (([] : List Int)) ++ p1.fe)))
   (AP ((p2.ff == 3))
    ((Bx p0.fc p2.fj).bind fun v32 =>
    (A5 N v32).bind fun v33 =>
    AP ((!v33))
     (some ((Ab.mk (([] : List Int)) (([] : List Int)) (([] : List Int))), false))
     ((B4 N p1 v32.fg).bind fun v35 =>
     (Bx p1.fe p2.fj).bind fun v36 =>
     AP ((v36 == v35))
      (some ((Ab.mk (([] : List Int)) (([] : List Int)) (([] : List Int))), false))
      (BO N p0 p1 p2 v32 v35 (fun (_ : Unit) =>
       (Bx ((([] : List Int)) ++ p1.fe) p2.fj).bind fun _ =>
       j4 ((([] : List Int)) ++ p1.fd, (([] : List Int)) ++ p1.fa, ((([] : List Int)) ++ p1.fe).set ((p2.fj).toNat) v35)) N 0)))
    ((Bx p1.fa p2.fj).bind fun v55 =>
    AP ((decide (v55 < 0)))
     (some ((Ab.mk (([] : List Int)) (([] : List Int)) (([] : List Int))), false))
     ((Bx ((([] : List Int)) ++ p1.fa) p2.fj).bind fun _ =>
     j4 ((([] : List Int)) ++ p1.fd, ((([] : List Int)) ++ p1.fa).set ((p2.fj).toNat) ((-1)), (([] : List Int)) ++ p1.fe)))))
def EN (N : Nat) (p0 : Aa) (p1 : Ab) (p2 : Ah) : Option (Ab × Int) :=
 (D7 N p0 p1).bind fun v1 =>
 AP ((v1 != 0))
  (some ((Ab.mk (([] : List Int)) (([] : List Int)) (([] : List Int))), v1))
  ((EI N p2).bind fun v3 =>
  AP ((!v3))
   (some ((Ab.mk (([] : List Int)) (([] : List Int)) (([] : List Int))), 1))
   (Bf (fun (v5 : Bool) =>
    AP v5
     (some ((Ab.mk (([] : List Int)) (([] : List Int)) (([] : List Int))), 4))
     (Bf (fun (v11 : Bool) =>
      AP v11
       (some ((Ab.mk (([] : List Int)) (([] : List Int)) (([] : List Int))), 4))
       ((CQ N p0 p1 p2).bind fun v15 =>
       AP ((!v15.2))
        (some ((Ab.mk (([] : List Int)) (([] : List Int)) (([] : List Int))), 11))
        (some (v15.1, 0))))
     fun j11 =>
     AP ((p2.ff == 1))
      ((Bx p0.fb p2.fj).bind fun v13 =>
      j11 (decide (v13 ≤ p2.fp)))
      (j11 false)))
   fun j5 =>
   AP ((p2.ff == 3))
    (AP ((decide ((p0.fc.length : Int) ≤ p2.fj)))
     (j5 true)
     (AP ((p2.ff != 3))
      (j5 (decide ((p0.fb.length : Int) ≤ p2.fj)))
      (j5 false)))
    (AP ((p2.ff != 3))
     (j5 (decide ((p0.fb.length : Int) ≤ p2.fj)))
     (j5 false))))
def Ck (N : Nat) (p0 : Aa) (p1 : Ab) (v1 : (List Ah) × Int) (v4 : (List Ah) × Int) (j7 : ((List Ah)) → Option ((List Ah))) : Nat → ((List Ah) × Int) → Option ((List Ah))
 | 0, _ => none
 | n7 + 1, v7 =>
  AP ((decide (v7.2 < 6)))
   (Bf (fun (v10 : (List Ah)) =>
    Ck N p0 p1 v1 v4 j7 n7 (v10, (wI .i64 (v7.2 + 1))))
   fun j10 =>
   (EN N p0 p1 ((Ah.mk v1.2 v4.2 v7.2))).bind fun v11 =>
   AP ((v11.2 == 0))
    ((DT (v7.1.length + (([(Ah.mk v1.2 v4.2 v7.2)] : List Ah)).length ≤ Dw)).bind fun _ =>
    j10 (v7.1 ++ (([(Ah.mk v1.2 v4.2 v7.2)] : List Ah))))
    (j10 v7.1))
   (j7 v7.1)
def Cm (N : Nat) (p0 : Aa) (p1 : Ab) (v1 : (List Ah) × Int) (j4 : ((List Ah)) → Option ((List Ah))) : Nat → ((List Ah) × Int) → Option ((List Ah))
 | 0, _ => none
 | n4 + 1, v4 =>
  AP ((decide (v4.2 < (UY ((p0.fb.length : Int)) ((p0.fc.length : Int))))))
   (Ck N p0 p1 v1 v4 (fun (v8 : (List Ah)) =>
    Cm N p0 p1 v1 j4 n4 (v8, (wI .i64 (v4.2 + 1)))) N (v4.1, 0))
   (j4 v4.1)
def BA (N : Nat) (p0 : Aa) (p1 : Ab) (j1 : ((List Ah)) → Option ((List Ah))) : Nat → ((List Ah) × Int) → Option ((List Ah))
 | 0, _ => none
 | n1 + 1, v1 =>
  AP ((decide (v1.2 ≤ 3)))
   (Cm N p0 p1 v1 (fun (v5 : (List Ah)) =>
    BA N p0 p1 j1 n1 (v5, (wI .i64 (v1.2 + 1)))) N (v1.1, 0))
   (j1 v1.1)
def EO (N : Nat) (p0 : Aa) (p1 : Ab) : Option ((List Ah)) :=
 BA N p0 p1 (fun (v2 : (List Ah)) =>
  some v2) N (([] : List Ah), 1)
def DA (N : Nat) (p0 : List Int) (p1 : List Int) (j1 : Unit → Option Int) : Nat → Int → Option Int
 | 0, _ => none
 | n1 + 1, v1 =>
  Bf (fun (v3 : Bool) =>
   AP v3
    ((Bx p0 v1).bind fun v6 =>
    (Bx p1 v1).bind fun v7 =>
    AP ((decide (v6 < v7)))
     (some ((-1)))
     ((Bx p0 v1).bind fun v9 =>
     (Bx p1 v1).bind fun v10 =>
     AP ((decide (v10 < v9)))
      (some 1)
      (DA N p0 p1 j1 n1 (wI .i64 (v1 + 1)))))
    (j1 ()))
  fun j3 =>
  AP ((decide (v1 < (p0.length : Int))))
   (j3 (decide (v1 < (p1.length : Int))))
   (j3 false)
def DJ (N : Nat) (p0 : List Int) (p1 : List Int) : Option Int :=
 DA N p0 p1 (fun (_ : Unit) =>
  AP ((decide ((p0.length : Int) < (p1.length : Int))))
   (some ((-1)))
   (AP ((decide ((p1.length : Int) < (p0.length : Int))))
    (some 1)
    (some 0))) N 0
def CT (N : Nat) (p0 : List Int) (j1 : ((List Int)) → Option ((List Int))) : Nat → ((List Int) × Int) → Option ((List Int))
 | 0, _ => none
 | n1 + 1, v1 =>
  AP ((decide (v1.2 < (p0.length : Int))))
   ((Bx p0 v1.2).bind fun v4 =>
   (DT (v1.1.length + (([(wI .i64 v4)] : List Int)).length ≤ Dw)).bind fun _ =>
   CT N p0 j1 n1 (v1.1 ++ (([(wI .i64 v4)] : List Int)), (wI .i64 (v1.2 + 1))))
   (j1 v1.1)
def Dz (N : Nat) (p0 : List Int) : Option ((List Int)) :=
 CT N p0 (fun (v2 : (List Int)) =>
  some v2) N (([] : List Int), 0)
def B3 (N : Nat) (p0 : Ab) (p1 : Ab) : Option Int :=
 (DJ N p0.fd p1.fd).bind fun v1 =>
 AP ((v1 != 0))
  (some v1)
  ((DJ N p0.fa p1.fa).bind fun v3 =>
  AP ((v3 != 0))
   (some v3)
   ((Dz N p0.fe).bind fun v5 =>
   (Dz N p1.fe).bind fun v6 =>
   (DJ N v5 v6).bind fun v7 =>
   some v7))
def De (N : Nat) (p0 : List Ab) (p1 : Ab) (j1 : Int → Option (Int × Bool)) : Nat → Int → Option (Int × Bool)
 | 0, _ => none
 | n1 + 1, v1 =>
  Bf (fun (v3 : Bool) =>
   AP v3
    (De N p0 p1 j1 n1 (wI .i64 (v1 + 1)))
    (j1 v1))
  fun j3 =>
  AP ((decide (v1 < (p0.length : Int))))
   ((Bx p0 v1).bind fun v5 =>
   (B3 N v5 p1).bind fun v6 =>
   j3 (decide (v6 < 0)))
   (j3 false)
def EJ (N : Nat) (p0 : List Ab) (p1 : Ab) : Option (Int × Bool) :=
 De N p0 p1 (fun (v2 : Int) =>
  Bf (fun (v8 : Bool) =>
   some (v2, v8))
  fun j8 =>
  AP ((decide (v2 < (p0.length : Int))))
   ((Bx p0 v2).bind fun v10 =>
   (B3 N v10 p1).bind fun v11 =>
   j8 (v11 == 0))
   (j8 false)) N 0
def B6 (N : Nat) (p0 : Aa) (p1 : Int) (v4 : (List Ab) × (List Ab) × Int) (v8 : (List Ah)) (j9 : ((List Ab) × (List Ab)) → Option ((List Ab) × Bool)) : Nat → ((List Ab) × (List Ab) × Int) → Option ((List Ab) × Bool)
 | 0, _ => none
 | n9 + 1, v9 =>
  AP ((decide (v9.2.2 < (v8.length : Int))))
   (Bf (fun (v12 : (List Ab) × (List Ab)) =>
    B6 N p0 p1 v4 v8 j9 n9 (v12.1, v12.2, (wI .i64 (v9.2.2 + 1))))
   fun j12 =>
   (Bx v9.1 v4.2.2).bind fun v13 =>
   (Bx v8 v9.2.2).bind fun v14 =>
   (CQ N p0 v13 v14).bind fun v15 =>
   (EJ N v9.2.1 v15.1).bind fun v16 =>
   Bf (fun (v17 : Bool) =>
    AP v17
     (j12 (v9.1, v9.2.1))
     ((DT (v9.1.length + (([v15.1] : List Ab)).length ≤ Dw)).bind fun _ =>
     (DT ((0 : Int) ≤ v16.1 ∧ 0 ≤ (v16.1).toNat ∧ (v16.1).toNat ≤ v9.2.1.length)).bind fun _ =>
     (DT ((([] : List Ab)).length + (((v9.2.1.drop 0).take ((v16.1).toNat - 0))).length ≤ Dw)).bind fun _ =>
     (DT (((([] : List Ab)) ++ (((v9.2.1.drop 0).take ((v16.1).toNat - 0)))).length + (([v15.1] : List Ab)).length ≤ Dw)).bind fun _ =>
     (DT ((0 : Int) ≤ v16.1 ∧ (v16.1).toNat ≤ v9.2.1.length ∧ v9.2.1.length ≤ v9.2.1.length)).bind fun _ =>
     (DT ((((([] : List Ab)) ++ (((v9.2.1.drop 0).take ((v16.1).toNat - 0)))) ++ (([v15.1] : List Ab))).length + (((v9.2.1.drop (v16.1).toNat).take (v9.2.1.length - (v16.1).toNat))).length ≤ Dw)).bind fun _ =>
     AP ((decide (p1 < ((v9.1 ++ (([v15.1] : List Ab))).length : Int))))
      (some (([] : List Ab), false))
      (j12 (v9.1 ++ (([v15.1] : List Ab)), (((([] : List Ab)) ++ (((v9.2.1.drop 0).take ((v16.1).toNat - 0)))) ++ (([v15.1] : List Ab))) ++ (((v9.2.1.drop (v16.1).toNat).take (v9.2.1.length - (v16.1).toNat)))))))
   fun j17 =>
   AP v16.2
    (j17 true)
    ((Df N p0 v15.1).bind fun v19 =>
    j17 (!v19)))
   (j9 (v9.1, v9.2.1))
def CB (N : Nat) (p0 : Aa) (p1 : Int) (j4 : ((List Ab)) → Option ((List Ab) × Bool)) : Nat → ((List Ab) × (List Ab) × Int) → Option ((List Ab) × Bool)
 | 0, _ => none
 | n4 + 1, v4 =>
  AP ((decide (v4.2.2 < (v4.1.length : Int))))
   ((Bx v4.1 v4.2.2).bind fun v7 =>
   (EO N p0 v7).bind fun v8 =>
   B6 N p0 p1 v4 v8 (fun (v10 : (List Ab) × (List Ab)) =>
    CB N p0 p1 j4 n4 (v10.1, v10.2, (wI .i64 (v4.2.2 + 1)))) N (v4.1, v4.2.1, 0))
   (j4 v4.2.1)
def C2 (N : Nat) (p0 : Aa) (p1 : Int) : Option ((List Ab) × Bool) :=
 (EM N p0).bind fun v1 =>
 (Df N p0 v1.1).bind fun v2 =>
 AP ((!v2))
  (some (([] : List Ab), true))
  (CB N p0 p1 (fun (v5 : (List Ab)) =>
   some (v5, true)) N (([v1.1] : List Ab), ([v1.1] : List Ab), 0))
def Fw (N : Nat) (p0 : BJ) : Option (Aa × (List Ab) × Bool) :=
 (Fy N p0).bind fun v1 =>
 AP ((!v1.2))
  (some (v1.1, ([] : List Ab), false))
  ((C2 N v1.1 300).bind fun v3 =>
  some (v1.1, v3.1, v3.2))
def B0 (_ : Nat) : Option Aa :=
 some ((Aa.mk (([2] : List Int)) (([0] : List Int)) (([1] : List Int)) (([(An.mk 1 0 0 false (([([true, true] : List Bool), ([false, true] : List Bool)] : List (List Bool))) (([] : List (List Bool))))] : List An))))
def Er (_ : Nat) (p0 : Int) (p1 : Int) : Option Bool :=
 Bf (fun (v1 : Bool) =>
  some v1)
 fun j1 =>
 AP ((decide (0 ≤ p0)))
  (j1 (decide (p0 < p1)))
  (j1 false)
def He (_ : Nat) (p0 : Int) (p1 : Bool) : Option Bool :=
 Bf (fun (v1 : Bool) =>
  some v1)
 fun j1 =>
 AP ((p0 == 1))
  (j1 true)
  (AP ((p0 == 2))
   (j1 true)
   (AP ((p0 == 3))
    (j1 (!p1))
    (AP ((p0 == 4))
     (j1 (!p1))
     (j1 false))))
def Eh (_ : Nat) (p0 : List Bool) (p1 : Int) : Option Bool :=
 some (((p0.length : Int) != p1))
def Bp (N : Nat) (p0 : List (List Bool)) (p1 : (List Bool) → Option Bool) (j1 : Unit → Option Int) : Nat → Int → Option Int
 | 0, _ => none
 | n1 + 1, v1 =>
  AP ((decide (v1 < (p0.length : Int))))
   ((Bx p0 v1).bind fun v4 =>
   (p1 v4).bind fun v5 =>
   AP v5
    (some v1)
    (Bp N p0 p1 j1 n1 (wI .i64 (v1 + 1))))
   (j1 ())
def DL (N : Nat) (p0 : List (List Bool)) (p1 : (List Bool) → Option Bool) : Option Int :=
 Bp N p0 p1 (fun (_ : Unit) =>
  some ((-1))) N 0
def C9 (N : Nat) (p0 : List (List Bool)) (p1 : (List Bool) → Option Bool) : Option Bool :=
 (DL N p0 p1).bind fun v1 =>
 some ((decide (0 ≤ v1)))
def Fv (N : Nat) (p0 : List (List Bool)) (p1 : Int) (p2 : Int) : Option Bool :=
 Bf (fun (v1 : Bool) =>
  some v1)
 fun j1 =>
 AP (((p0.length : Int) == p1))
  ((C9 N p0 ((fun (x : List Bool) => Eh N x p2))).bind fun v3 =>
  j1 (!v3))
  (j1 false)
def Du (N : Nat) (p1 : An) (j19 : Unit → Option Int) : Nat → Int → Option Int
 | 0, _ => none
 | n19 + 1, v19 =>
  AP ((decide (v19 < (p1.fo.length : Int))))
   ((Bx p1.fo v19).bind fun v22 =>
   (Bx v22 v19).bind fun v23 =>
   AP ((!v23))
    (some 1)
    (Du N p1 j19 n19 (wI .i64 (v19 + 1))))
   (j19 ())
def GG (N : Nat) (p0 : Aa) (p1 : An) : Option Int :=
 (He N p1.ff p1.ft).bind fun v1 =>
 AP ((!v1))
  (some 1)
  (Bf (fun (v3 : Bool) =>
   AP v3
    (some 4)
    ((Bx p0.fb p1.fg).bind fun v8 =>
    Bf (fun (v9 : Bool) =>
     AP v9
      (some 6)
      (Du N p1 (fun (_ : Unit) =>
       some 0) N 0))
    fun j9 =>
    (Bx p0.fb p1.fm).bind fun v10 =>
    (Fv N p1.fk v8 v10).bind fun v11 =>
    AP ((!v11))
     (j9 true)
     (AP ((p1.ff == 4))
      ((Fv N p1.fo v8 v8).bind fun v14 =>
      AP ((!v14))
       (j9 true)
       (AP ((!((p1.ff == 4))))
        (j9 (decide (0 < (p1.fo.length : Int))))
        (j9 false)))
      (AP ((!((p1.ff == 4))))
       (j9 (decide (0 < (p1.fo.length : Int))))
       (j9 false)))))
  fun j3 =>
  (Er N p1.fg ((p0.fb.length : Int))).bind fun v4 =>
  AP ((!v4))
   (j3 true)
   ((Er N p1.fm ((p0.fb.length : Int))).bind fun v6 =>
   j3 (!v6)))
def Ca (N : Nat) (p0 : Aa) (j7 : Unit → Option Int) : Nat → Int → Option Int
 | 0, _ => none
 | n7 + 1, v7 =>
  AP ((decide (v7 < (p0.fb.length : Int))))
   ((Bx p0.fb v7).bind fun v10 =>
   Bf (fun (v11 : Bool) =>
    AP v11
     (some 7)
     (Ca N p0 j7 n7 (wI .i64 (v7 + 1))))
   fun j11 =>
   AP ((decide (v10 < 1)))
    (j11 true)
    (AP ((decide (6 < v10)))
     (j11 true)
     ((Bx p0.fh v7).bind fun v14 =>
     (Er N v14 v10).bind fun v15 =>
     AP ((!v15))
      (j11 true)
      ((Bx p0.fi v7).bind fun v17 =>
      (Er N v17 v10).bind fun v18 =>
      j11 (!v18)))))
   (j7 ())
def BS (N : Nat) (p0 : Aa) (j20 : Unit → Option Int) : Nat → Int → Option Int
 | 0, _ => none
 | n20 + 1, v20 =>
  AP ((decide (v20 < (p0.fc.length : Int))))
   ((Bx p0.fc v20).bind fun v23 =>
   (GG N p0 v23).bind fun v24 =>
   AP ((v24 != 0))
    (some v24)
    (BS N p0 j20 n20 (wI .i64 (v20 + 1))))
   (j20 ())
def CH (N : Nat) (p0 : Aa) : Option Int :=
 Bf (fun (v1 : Bool) =>
  AP v1
   (some 3)
   (Bf (fun (v4 : Bool) =>
    AP v4
     (some 6)
     (Ca N p0 (fun (_ : Unit) =>
      BS N p0 (fun (_ : Unit) =>
       some 0) N 0) N 0))
   fun j4 =>
   AP (((p0.fh.length : Int) != (p0.fb.length : Int)))
    (j4 true)
    (j4 ((p0.fi.length : Int) != (p0.fb.length : Int)))))
 fun j1 =>
 AP ((decide (6 < (p0.fb.length : Int))))
  (j1 true)
  (j1 (decide (12 < (p0.fc.length : Int))))
def Bl (_ : Nat) (p0 : List Int) : Option ((List Int)) :=
 (DT ((([] : List Int)).length + p0.length ≤ Dw)).bind fun _ =>
 some ((([] : List Int)) ++ p0)
def Hk (_ : Nat) (p0 : Int) (p1 : Int) : Option (Int × Int) :=
 some ((wI .u32 ((FI .u64 ((wI .u64 ((wI .u64 p0) * (wI .u64 p1)))) 32))), (wI .u32 ((wI .u64 ((wI .u64 p0) * (wI .u64 p1))))))
def Hp (_ : Nat) (p0 : Int) (p1 : Int) : Option (Int × Int) :=
 some ((wI .u64 ((wI .u64 ((wI .u64 ((FI .u64 p0 32) * (FI .u64 p1 32))) + (FI .u64 ((wI .u64 ((wI .u64 ((FI .u64 p0 32) * (GP .u64 p1 4294967295))) + (FI .u64 ((wI .u64 ((GP .u64 p0 4294967295) * (GP .u64 p1 4294967295)))) 32)))) 32))) + (FI .u64 ((wI .u64 ((GP .u64 ((wI .u64 ((wI .u64 ((FI .u64 p0 32) * (GP .u64 p1 4294967295))) + (FI .u64 ((wI .u64 ((GP .u64 p0 4294967295) * (GP .u64 p1 4294967295)))) 32)))) 4294967295) + (wI .u64 ((GP .u64 p0 4294967295) * (FI .u64 p1 32)))))) 32))), (wI .u64 (p0 * p1)))
def H6 (N : Nat) (p0 : Int) (p1 : Int) : Option (Int × Int) :=
 AP false
  ((Hk N ((wI .u32 p0)) ((wI .u32 p1))).bind fun v2 =>
  some ((wI .u64 v2.1), (wI .u64 v2.2)))
  ((Hp N p0 p1).bind fun v3 =>
  some (v3.1, v3.2))
def D9 (N : Nat) (j9 : ((List Int)) → Option ((List Int))) : Nat → ((List Int) × Int) → Option ((List Int))
 | 0, _ => none
 | n9 + 1, v9 =>
  AP ((decide (v9.2 < (v9.1.length : Int))))
   ((DT ((0 : Int) ≤ v9.2 ∧ (v9.2).toNat ≤ v9.1.length ∧ v9.1.length ≤ v9.1.length)).bind fun _ =>
   (DT ((0 : Int) ≤ v9.2 ∧ 0 ≤ (v9.2).toNat ∧ (v9.2).toNat ≤ v9.1.length)).bind fun _ =>
   D9 N j9 n9 (HY v9.1 ((v9.2).toNat) ((((v9.1.drop 0).take ((v9.2).toNat))).take (zE5 (((v9.1.drop 0).take ((v9.2).toNat))).length ((v9.1.length - (v9.2).toNat)))), (wI .i64 (v9.2 + (((zE5 (((v9.1.drop 0).take ((v9.2).toNat))).length ((v9.1.length - (v9.2).toNat))) : Nat) : Int)))))
   (j9 v9.1)
def EG (N : Nat) (p0 : List Int) (p1 : Int) : Option ((List Int)) :=
 Bf (fun (_ : Unit) =>
  (H6 N ((wI .u64 ((p0.length : Int)))) ((wI .u64 p1))).bind fun v3 =>
  Bf (fun (_ : Unit) =>
   (DT ((0 : Int) ≤ (wI .i64 v3.2) ∧ (wI .i64 v3.2) ≤ (wI .i64 v3.2) ∧ (wI .i64 v3.2) ≤ (Dw : Int))).bind fun _ =>
   D9 N (fun (v10 : (List Int)) =>
    some v10) N (HY (zA2 ((wI .i64 v3.2)).toNat ((0 : Int))) 0 (p0.take (zE5 p0.length ((zA2 ((wI .i64 v3.2)).toNat ((0 : Int))).length))), (((zE5 p0.length ((zA2 ((wI .i64 v3.2)).toNat ((0 : Int))).length)) : Nat) : Int)))
  fun j4 =>
  Bf (fun (v5 : Bool) =>
   AP v5
    (none)
    (j4 ()))
  fun j5 =>
  AP ((decide (0 < v3.1)))
   (j5 true)
   (j5 (decide (9223372036854775807 < v3.2))))
 fun j1 =>
 AP ((decide (p1 < 0)))
  (none)
  (j1 ())
def FL (_ : Nat) (p0 : An) : Option Bool :=
 Bf (fun (v1 : Bool) =>
  some v1)
 fun j1 =>
 AP ((p0.ff == 3))
  (j1 true)
  (j1 (p0.ff == 4))
def Es (N : Nat) (p0 : Aa) (j6 : ((List Int)) → Option (Ab × Int)) : Nat → ((List Int) × Int) → Option (Ab × Int)
 | 0, _ => none
 | n6 + 1, v6 =>
  AP ((decide (v6.2 < (p0.fc.length : Int))))
   (Bf (fun (v9 : (List Int)) =>
    Es N p0 j6 n6 (v9, (wI .i64 (v6.2 + 1))))
   fun j9 =>
   (Bx p0.fc v6.2).bind fun v10 =>
   (FL N v10).bind fun v11 =>
   AP v11
    ((Bx p0.fh v10.fg).bind fun v13 =>
    (DT (0 ≤ v13)).bind fun _ =>
    (Bx v6.1 v6.2).bind fun _ =>
    j9 (v6.1.set ((v6.2).toNat) ((Ee .u8 1 v13))))
    (j9 v6.1))
   (j6 v6.1)
def GH (N : Nat) (p0 : Aa) : Option (Ab × Int) :=
 (CH N p0).bind fun v1 =>
 AP ((v1 != 0))
  (some ((Ab.mk (([] : List Int)) (([] : List Int)) (([] : List Int))), v1))
  ((Bl N p0.fh).bind fun v3 =>
  (EG N (([(-1)] : List Int)) ((p0.fh.length : Int))).bind fun v4 =>
  (DT ((0 : Int) ≤ (p0.fc.length : Int) ∧ (p0.fc.length : Int) ≤ (p0.fc.length : Int) ∧ (p0.fc.length : Int) ≤ (Dw : Int))).bind fun _ =>
  Es N p0 (fun (v7 : (List Int)) =>
   some ((Ab.mk v3 v4 v7), 0)) N (zA2 ((p0.fc.length : Int)).toNat ((0 : Int)), 0))
def Fh (_ : Nat) (p0 : Ab) (p1 : Int) : Option Int :=
 (Bx p0.fd p1).bind fun v1 =>
 (DT (0 ≤ v1)).bind fun _ =>
 Bf (fun (v3 : Int) =>
  some v3)
 fun j3 =>
 (Bx p0.fa p1).bind fun v4 =>
 AP ((decide (0 ≤ v4)))
  ((Bx p0.fa p1).bind fun v6 =>
  (DT (0 ≤ v6)).bind fun _ =>
  j3 (Pw .u8 ((Ee .u8 1 v1)) ((Ee .u8 1 v6))))
  (j3 (Ee .u8 1 v1))
def Et (N : Nat) (p0 : Aa) (p1 : Ab) (j7 : Unit → Option Int) : Nat → Int → Option Int
 | 0, _ => none
 | n7 + 1, v7 =>
  AP ((decide (v7 < (p0.fb.length : Int))))
   ((Bx p0.fb v7).bind fun v10 =>
   Bf (fun (v11 : Bool) =>
    AP v11
     (some 7)
     ((Bx p1.fd v7).bind fun v20 =>
     (Bx p1.fa v7).bind fun v21 =>
     AP ((v20 == v21))
      (some 1)
      (Et N p0 p1 j7 n7 (wI .i64 (v7 + 1)))))
   fun j11 =>
   (Bx p1.fd v7).bind fun v12 =>
   AP ((decide (v12 < 0)))
    (j11 true)
    ((Bx p1.fd v7).bind fun v14 =>
    AP ((decide (v10 ≤ v14)))
     (j11 true)
     ((Bx p1.fa v7).bind fun v16 =>
     AP ((decide (v16 < (-1))))
      (j11 true)
      ((Bx p1.fa v7).bind fun v18 =>
      j11 (decide (v10 ≤ v18))))))
   (j7 ())
def D1 (N : Nat) (p0 : Aa) (p1 : Ab) (j23 : Unit → Option Int) : Nat → Int → Option Int
 | 0, _ => none
 | n23 + 1, v23 =>
  AP ((decide (v23 < (p0.fc.length : Int))))
   ((Bx p0.fc v23).bind fun v26 =>
   Bf (fun (v27 : Int × Int) =>
    Bf (fun (v33 : Bool) =>
     AP v33
      (some 1)
      (D1 N p0 p1 j23 n23 (wI .i64 (v23 + 1))))
    fun j33 =>
    (Bx p1.fe v23).bind fun v34 =>
    AP (((DC .u8 v27.1 v34) != 0))
     (j33 true)
     ((Bx p1.fe v23).bind fun v36 =>
     j33 ((DC .u8 v36 v27.2) != 0)))
   fun j27 =>
   (FL N v26).bind fun v28 =>
   AP v28
    ((Fh N p1 v26.fg).bind fun v30 =>
    (Bx p0.fb v26.fg).bind fun v31 =>
    (DT (0 ≤ v31)).bind fun _ =>
    j27 (v30, (wI .u8 ((Ee .u8 1 v31) - 1))))
    (j27 (0, 0)))
   (j23 ())
def E6 (N : Nat) (p0 : Aa) (p1 : Ab) : Option Int :=
 (CH N p0).bind fun v1 =>
 AP ((v1 != 0))
  (some v1)
  (Bf (fun (v3 : Bool) =>
   AP v3
    (some 6)
    (Et N p0 p1 (fun (_ : Unit) =>
     D1 N p0 p1 (fun (_ : Unit) =>
      some 0) N 0) N 0))
  fun j3 =>
  AP (((p1.fd.length : Int) != (p0.fb.length : Int)))
   (j3 true)
   (AP (((p1.fa.length : Int) != (p0.fb.length : Int)))
    (j3 true)
    (j3 ((p1.fe.length : Int) != (p0.fc.length : Int)))))
def Bz (_ : Nat) (p0 : List Int) : Option ((List Int)) :=
 (DT ((([] : List Int)).length + p0.length ≤ Dw)).bind fun _ =>
 some ((([] : List Int)) ++ p0)
def D6 (N : Nat) (p1 : Ab) (j3 : ((List Int)) → Option ((List Ab) × Int)) : Nat → ((List Int) × Int) → Option ((List Ab) × Int)
 | 0, _ => none
 | n3 + 1, v3 =>
  AP ((decide (v3.2 < (p1.fa.length : Int))))
   (Bf (fun (v6 : (List Int)) =>
    D6 N p1 j3 n3 (v6, (wI .i64 (v3.2 + 1))))
   fun j6 =>
   (Bx p1.fa v3.2).bind fun v7 =>
   AP ((decide (0 ≤ v7)))
    ((DT (v3.1.length + (([v3.2] : List Int)).length ≤ Dw)).bind fun _ =>
    j6 (v3.1 ++ (([v3.2] : List Int))))
    (j6 v3.1))
   (j3 v3.1)
def C6 (N : Nat) (v4 : (List Int)) (v11 : (List Ab) × Int) (j17 : ((List Int)) → Option ((List Ab) × Int)) : Nat → ((List Int) × Int) → Option ((List Ab) × Int)
 | 0, _ => none
 | n17 + 1, v17 =>
  AP ((decide (v17.2 < (v4.length : Int))))
   (Bf (fun (v20 : (List Int)) =>
    C6 N v4 v11 j17 n17 (v20, (wI .i64 (v17.2 + 1))))
   fun j20 =>
   (Bx v4 v17.2).bind fun v21 =>
   (DT (0 ≤ v17.2)).bind fun _ =>
   AP (((GP .i64 ((FI .i64 v11.2 v17.2)) 1) == 1))
    ((Bx v17.1 v21).bind fun _ =>
    j20 (v17.1.set ((v21).toNat) ((-1))))
    (j20 v17.1))
   (j17 v17.1)
def C7 (N : Nat) (p1 : Ab) (v4 : (List Int)) (j11 : ((List Ab)) → Option ((List Ab) × Int)) : Nat → ((List Ab) × Int) → Option ((List Ab) × Int)
 | 0, _ => none
 | n11 + 1, v11 =>
  AP ((decide (v11.2 < (Ee .i64 1 ((v4.length : Int))))))
   ((Bl N p1.fd).bind fun v14 =>
   (Bl N p1.fa).bind fun v15 =>
   (Bz N p1.fe).bind fun v16 =>
   C6 N v4 v11 (fun (v18 : (List Int)) =>
    (DT (v11.1.length + (([(Ab.mk v14 v18 v16)] : List Ab)).length ≤ Dw)).bind fun _ =>
    C7 N p1 v4 j11 n11 (v11.1 ++ (([(Ab.mk v14 v18 v16)] : List Ab)), (wI .i64 (v11.2 + 1)))) N (v15, 0))
   (j11 v11.1)
def Hd (N : Nat) (p0 : Aa) (p1 : Ab) : Option ((List Ab) × Int) :=
 (E6 N p0 p1).bind fun v1 =>
 AP ((v1 != 0))
  (some (([] : List Ab), v1))
  (D6 N p1 (fun (v4 : (List Int)) =>
   (DT (0 ≤ (v4.length : Int))).bind fun _ =>
   C7 N p1 v4 (fun (v12 : (List Ab)) =>
    some (v12, 0)) N (([] : List Ab), 0)) N (([] : List Int), 0))
def Cb (N : Nat) (v1 : (List Ad) × Int) (v4 : An) (v6 : Int) (v11 : (List Ad) × Int) (v17 : List Bool) (j18 : ((List Ad) × Bool) → Option ((List Ad))) : Nat → ((List Ad) × Bool × Int) → Option ((List Ad))
 | 0, _ => none
 | n18 + 1, v18 =>
  AP ((decide (v18.2.2 < (v17.length : Int))))
   (Bf (fun (v21 : (List Ad) × Bool) =>
    Cb N v1 v4 v6 v11 v17 j18 n18 (v21.1, v21.2, (wI .i64 (v18.2.2 + 1))))
   fun j21 =>
   (Bx v17 v18.2.2).bind fun v22 =>
   (DT (0 ≤ v18.2.2)).bind fun _ =>
   AP (((GP .u8 ((FI .u8 v6 v18.2.2)) 1) == 0))
    (j21 (v18.1, v18.2.1))
    (Bf (fun (v25 : Bool) =>
     Bf (fun (v27 : Bool) =>
      AP v27
       ((DT (v18.1.length + (([(Ad.mk v1.2 v11.2 v18.2.2)] : List Ad)).length ≤ Dw)).bind fun _ =>
       j21 (v18.1 ++ (([(Ad.mk v1.2 v11.2 v18.2.2)] : List Ad)), v25))
       (j21 (v18.1, v25)))
     fun j27 =>
     AP ((!v22))
      (j27 (!v4.ft))
      (j27 false))
    fun j25 =>
    AP v18.2.1
     (j25 true)
     (j25 v22)))
   (j18 (v18.1, v18.2.1))
def Cs (N : Nat) (v1 : (List Ad) × Int) (v4 : An) (v6 : Int) (v7 : Int) (j11 : ((List Ad)) → Option ((List Ad))) : Nat → ((List Ad) × Int) → Option ((List Ad))
 | 0, _ => none
 | n11 + 1, v11 =>
  AP ((decide (v11.2 < (v4.fk.length : Int))))
   (Bf (fun (v14 : (List Ad)) =>
    Cs N v1 v4 v6 v7 j11 n11 (v14, (wI .i64 (v11.2 + 1))))
   fun j14 =>
   (DT (0 ≤ v11.2)).bind fun _ =>
   AP (((GP .u8 ((FI .u8 v7 v11.2)) 1) == 0))
    (j14 v11.1)
    ((Bx v4.fk v11.2).bind fun v17 =>
    Cb N v1 v4 v6 v11 v17 (fun (v19 : (List Ad) × Bool) =>
     Bf (fun (v31 : Bool) =>
      AP v31
       ((DT (v19.1.length + (([(Ad.mk v1.2 v11.2 ((-1)))] : List Ad)).length ≤ Dw)).bind fun _ =>
       j14 (v19.1 ++ (([(Ad.mk v1.2 v11.2 ((-1)))] : List Ad))))
       (j14 v19.1))
     fun j31 =>
     AP v4.ft
      (j31 (!v19.2))
      (j31 false)) N (v11.1, false, 0)))
   (j11 v11.1)
def DE (N : Nat) (p0 : Aa) (p1 : Ab) (j1 : ((List Ad)) → Option ((List Ad))) : Nat → ((List Ad) × Int) → Option ((List Ad))
 | 0, _ => none
 | n1 + 1, v1 =>
  AP ((decide (v1.2 < (p0.fc.length : Int))))
   ((Bx p0.fc v1.2).bind fun v4 =>
   (Fh N p1 v4.fg).bind fun v5 =>
   (Fh N p1 v4.fm).bind fun v6 =>
   Bf (fun (v7 : Int) =>
    Cs N v1 v4 v6 v7 (fun (v12 : (List Ad)) =>
     DE N p0 p1 j1 n1 (v12, (wI .i64 (v1.2 + 1)))) N (v1.1, 0))
   fun j7 =>
   (FL N v4).bind fun v8 =>
   AP v8
    ((Bx p1.fe v1.2).bind fun v10 =>
    j7 v10)
    (j7 v5))
   (j1 v1.1)
def FW (N : Nat) (p0 : Aa) (p1 : Ab) : Option ((List Ad)) :=
 DE N p0 p1 (fun (v2 : (List Ad)) =>
  some v2) N (([] : List Ad), 0)
def EZ (N : Nat) (p0 : Aa) (v1 : (List Ab) × Int) (j3 : Unit → Option (Ab × Ad × Int)) : Nat → Int → Option (Ab × Ad × Int)
 | 0, _ => none
 | n3 + 1, v3 =>
  AP ((decide (v3 < (v1.1.length : Int))))
   ((Bx v1.1 v3).bind fun v6 =>
   (FW N p0 v6).bind fun v7 =>
   AP ((decide (0 < (v7.length : Int))))
    ((Bx v7 0).bind fun v9 =>
    some (v6, v9, 0))
    (EZ N p0 v1 j3 n3 (wI .i64 (v3 + 1))))
   (j3 ())
def GR (N : Nat) (p0 : Aa) (p1 : Ab) : Option (Ab × Ad × Int) :=
 (Hd N p0 p1).bind fun v1 =>
 AP ((v1.2 != 0))
  (some ((Ab.mk (([] : List Int)) (([] : List Int)) (([] : List Int))), (Ad.mk 0 0 0), v1.2))
  (EZ N p0 v1 (fun (_ : Unit) =>
   some ((Ab.mk (([] : List Int)) (([] : List Int)) (([] : List Int))), (Ad.mk 0 0 0), 15)) N 0)
def EF (N : Nat) (p0 : Aa) (p1 : Ab) : Option (Bool × Int) :=
 (GR N p0 p1).bind fun v1 =>
 AP ((v1.2.2 == 0))
  (some (false, 0))
  (AP ((v1.2.2 == 15))
   (some (true, 0))
   (some (false, v1.2.2)))
def Gy (N : Nat) (p0 : Aa) : Option (Ab × Bool × Int) :=
 (GH N p0).bind fun v1 =>
 AP ((v1.2 != 0))
  (some ((Ab.mk (([] : List Int)) (([] : List Int)) (([] : List Int))), false, v1.2))
  ((EF N p0 v1.1).bind fun v3 =>
  some (v1.1, v3.1, v3.2))
def Ep (N : Nat) (p0 : Ab) (j1 : ((List Int)) → Option ByteArray) : Nat → ((List Int) × Int) → Option ByteArray
 | 0, _ => none
 | n1 + 1, v1 =>
  AP ((decide (v1.2 < (p0.fd.length : Int))))
   ((Bx p0.fd v1.2).bind fun v4 =>
   (Bx p0.fa v1.2).bind fun v5 =>
   (DT (v1.1.length + (([(wI .u8 v4), (wI .u8 ((wI .i64 (v5 + 1))))] : List Int)).length ≤ Dw)).bind fun _ =>
   Ep N p0 j1 n1 (v1.1 ++ (([(wI .u8 v4), (wI .u8 ((wI .i64 (v5 + 1))))] : List Int)), (wI .i64 (v1.2 + 1))))
   (j1 v1.1)
def Dv (N : Nat) (p0 : Ab) (j7 : ((List Int)) → Option ByteArray) : Nat → ((List Int) × Int) → Option ByteArray
 | 0, _ => none
 | n7 + 1, v7 =>
  AP ((decide (v7.2 < (p0.fe.length : Int))))
   ((Bx p0.fe v7.2).bind fun v10 =>
   (DT (v7.1.length + (([v10] : List Int)).length ≤ Dw)).bind fun _ =>
   Dv N p0 j7 n7 (v7.1 ++ (([v10] : List Int)), (wI .i64 (v7.2 + 1))))
   (j7 v7.1)
def F9 (N : Nat) (p0 : Ab) : Option ByteArray :=
 Ep N p0 (fun (v2 : (List Int)) =>
  Dv N p0 (fun (v8 : (List Int)) =>
   some ((CP v8))) N (v2, 0)) N (([] : List Int), 0)
def EP (N : Nat) (v1 : (List Ah) × Int) (v4 : Int) (j5 : ((List Ah)) → Option ((List Ah))) : Nat → ((List Ah) × Int) → Option ((List Ah))
 | 0, _ => none
 | n5 + 1, v5 =>
  AP ((decide (v5.2 < v4)))
   ((DT (v5.1.length + (([(Ah.mk 1 v1.2 v5.2)] : List Ah)).length ≤ Dw)).bind fun _ =>
   EP N v1 v4 j5 n5 (v5.1 ++ (([(Ah.mk 1 v1.2 v5.2)] : List Ah)), (wI .i64 (v5.2 + 1))))
   (j5 v5.1)
def Dm (N : Nat) (p0 : Aa) (j1 : ((List Ah)) → Option ((List Ah))) : Nat → ((List Ah) × Int) → Option ((List Ah))
 | 0, _ => none
 | n1 + 1, v1 =>
  AP ((decide (v1.2 < (p0.fb.length : Int))))
   ((Bx p0.fb v1.2).bind fun v4 =>
   EP N v1 v4 (fun (v6 : (List Ah)) =>
    Dm N p0 j1 n1 (v6, (wI .i64 (v1.2 + 1)))) N (v1.1, 0))
   (j1 v1.1)
def Cv (N : Nat) (p0 : Aa) (j9 : ((List Ah)) → Option ((List Ah))) : Nat → ((List Ah) × Int) → Option ((List Ah))
 | 0, _ => none
 | n9 + 1, v9 =>
  AP ((decide (v9.2 < (p0.fb.length : Int))))
   ((DT (v9.1.length + (([(Ah.mk 2 v9.2 0)] : List Ah)).length ≤ Dw)).bind fun _ =>
   Cv N p0 j9 n9 (v9.1 ++ (([(Ah.mk 2 v9.2 0)] : List Ah)), (wI .i64 (v9.2 + 1))))
   (j9 v9.1)
def Bw (N : Nat) (p0 : Aa) (j13 : ((List Ah)) → Option ((List Ah))) : Nat → ((List Ah) × Int) → Option ((List Ah))
 | 0, _ => none
 | n13 + 1, v13 =>
  AP ((decide (v13.2 < (p0.fc.length : Int))))
   ((DT (v13.1.length + (([(Ah.mk 3 v13.2 0)] : List Ah)).length ≤ Dw)).bind fun _ =>
   Bw N p0 j13 n13 (v13.1 ++ (([(Ah.mk 3 v13.2 0)] : List Ah)), (wI .i64 (v13.2 + 1))))
   (j13 v13.1)
def It (N : Nat) (p0 : Aa) : Option ((List Ah)) :=
 Dm N p0 (fun (v2 : (List Ah)) =>
  Cv N p0 (fun (v10 : (List Ah)) =>
   Bw N p0 (fun (v14 : (List Ah)) =>
    some v14) N (v10, 0)) N (v2, 0)) N (([] : List Ah), 0)
def Gz (N : Nat) (p0 : Ab) : Option Ab :=
 (Bl N p0.fd).bind fun v1 =>
 (Bl N p0.fa).bind fun v2 =>
 (Bz N p0.fe).bind fun v3 =>
 some ((Ab.mk v1 v2 v3))
def FV (_ : Nat) (p0 : An) : Option Bool :=
 Bf (fun (v1 : Bool) =>
  some v1)
 fun j1 =>
 AP ((p0.ff == 3))
  (j1 true)
  (j1 (p0.ff == 4))
def D0 (N : Nat) (p0 : Aa) (p2 : Ah) (j7 : ((List Int)) → Option (Bool × (List Int) × (List Int))) : Nat → ((List Int) × Int) → Option (Bool × (List Int) × (List Int))
 | 0, _ => none
 | n7 + 1, v7 =>
  AP ((decide (v7.2 < (p0.fc.length : Int))))
   (Bf (fun (v10 : (List Int)) =>
    D0 N p0 p2 j7 n7 (v10, (wI .i64 (v7.2 + 1))))
   fun j10 =>
   (Bx p0.fc v7.2).bind fun v11 =>
   Bf (fun (v12 : Bool) =>
    AP v12
     ((Bx v7.1 v7.2).bind fun v16 =>
     (DT (0 ≤ p2.fp)).bind fun _ =>
     (Bx v7.1 v7.2).bind fun _ =>
     j10 (v7.1.set ((v7.2).toNat) ((Pw .u8 v16 ((Ee .u8 1 p2.fp))))))
     (j10 v7.1))
   fun j12 =>
   AP ((v11.fg == p2.fj))
    ((FV N v11).bind fun v14 =>
    j12 v14)
    (j12 false))
   (j7 v7.1)
def Ie (N : Nat) (p0 : Aa) (p1 : Ab) (p2 : Ah) : Option (Bool × (List Int) × (List Int)) :=
 Bf (fun (v1 : Bool) =>
  AP v1
   (some (false, p1.fa, p1.fe))
   ((Bx p1.fa p2.fj).bind fun _ =>
   D0 N p0 p2 (fun (v8 : (List Int)) =>
    some (true, p1.fa.set ((p2.fj).toNat) p2.fp, v8)) N (p1.fe, 0)))
 fun j1 =>
 (Bx p1.fa p2.fj).bind fun v2 =>
 AP ((decide (0 ≤ v2)))
  (j1 true)
  ((Bx p1.fd p2.fj).bind fun v4 =>
  j1 (v4 == p2.fp))
def Gk (_ : Nat) (p0 : Ab) (p1 : Int) : Option Int :=
 (Bx p0.fd p1).bind fun v1 =>
 (DT (0 ≤ v1)).bind fun _ =>
 Bf (fun (v3 : Int) =>
  some v3)
 fun j3 =>
 (Bx p0.fa p1).bind fun v4 =>
 AP ((decide (0 ≤ v4)))
  ((Bx p0.fa p1).bind fun v6 =>
  (DT (0 ≤ v6)).bind fun _ =>
  j3 (Pw .u8 ((Ee .u8 1 v1)) ((Ee .u8 1 v6))))
  (j3 (Ee .u8 1 v1))
def C4 (_ : Nat) (p0 : Int) : Option Int :=
 (XZ ((⟨⟨(List.append (List.append [8, 0, 1, 0, 2, 0, 1, 0, 3, 0, 1, 0, 2, 0, 1, 0, 4, 0, 1, 0, 2, 0, 1, 0, 3, 0, 1, 0, 2, 0, 1, 0, 5, 0, 1, 0, 2, 0, 1, 0, 3, 0, 1, 0, 2, 0, 1, 0, 4, 0, 1, 0, 2, 0, 1, 0, 3, 0, 1, 0, 2, 0, 1, 0] [6, 0, 1, 0, 2, 0, 1, 0, 3, 0, 1, 0, 2, 0, 1, 0, 4, 0, 1, 0, 2, 0, 1, 0, 3, 0, 1, 0, 2, 0, 1, 0, 5, 0, 1, 0, 2, 0, 1, 0, 3, 0, 1, 0, 2, 0, 1, 0, 4, 0, 1, 0, 2, 0, 1, 0, 3, 0, 1, 0, 2, 0, 1, 0]) (List.append [7, 0, 1, 0, 2, 0, 1, 0, 3, 0, 1, 0, 2, 0, 1, 0, 4, 0, 1, 0, 2, 0, 1, 0, 3, 0, 1, 0, 2, 0, 1, 0, 5, 0, 1, 0, 2, 0, 1, 0, 3, 0, 1, 0, 2, 0, 1, 0, 4, 0, 1, 0, 2, 0, 1, 0, 3, 0, 1, 0, 2, 0, 1, 0] [6, 0, 1, 0, 2, 0, 1, 0, 3, 0, 1, 0, 2, 0, 1, 0, 4, 0, 1, 0, 2, 0, 1, 0, 3, 0, 1, 0, 2, 0, 1, 0, 5, 0, 1, 0, 2, 0, 1, 0, 3, 0, 1, 0, 2, 0, 1, 0, 4, 0, 1, 0, 2, 0, 1, 0, 3, 0, 1, 0, 2, 0, 1, 0]))⟩⟩ : ByteArray)) p0).bind fun v1 =>
 some ((wI .i64 v1))
def DN (N : Nat) (p0 : An) (p2 : Int) (j1 : Unit → Option Bool) : Nat → Int → Option Bool
 | 0, _ => none
 | n1 + 1, v1 =>
  AP ((v1 != 0))
   ((C4 N v1).bind fun v4 =>
   (Bx p0.fo v4).bind fun v5 =>
   (Bx v5 p2).bind fun v6 =>
   AP ((!v6))
    (some false)
    (DN N p0 p2 j1 n1 (GP .u8 v1 ((wI .u8 (v1 - 1))))))
   (j1 ())
def F6 (N : Nat) (p0 : An) (p1 : Int) (p2 : Int) : Option Bool :=
 DN N p0 p2 (fun (_ : Unit) =>
  some true) N p1
def GZ (N : Nat) (p0 : Aa) (p1 : Ab) (p2 : Int) : Option (Bool × (List Int)) :=
 (Bx p0.fc p2).bind fun v1 =>
 (FV N v1).bind fun v2 =>
 AP ((!v2))
  (some (false, p1.fe))
  ((Gk N p1 v1.fg).bind fun v4 =>
  (Bx p1.fe p2).bind fun v5 =>
  Bf (fun (v6 : Bool) =>
   AP v6
    (some (false, p1.fe))
    ((Bx p1.fe p2).bind fun _ =>
    some (true, p1.fe.set ((p2).toNat) v4)))
  fun j6 =>
  (Bx p1.fe p2).bind fun v7 =>
  AP ((v7 == v4))
   (j6 true)
   (AP ((v1.ff == 4))
    ((Bx p1.fd v1.fg).bind fun v10 =>
    (F6 N v1 ((DC .u8 v5 v4)) v10).bind fun v11 =>
    j6 (!v11))
    (j6 false)))
def FQ (N : Nat) (p0 : Aa) (p1 : Ab) (p2 : Ah) : Option (Ab × Bool) :=
 (Gz N p1).bind fun v1 =>
 AP ((p2.ff == 1))
  ((Ie N p0 v1 p2).bind fun v3 =>
  some ((Ab.mk v1.fd v3.2.1 v3.2.2), v3.1))
  (AP ((p2.ff == 3))
   ((GZ N p0 v1 p2.fj).bind fun v5 =>
   some ((Ab.mk v1.fd v1.fa v5.2), v5.1))
   ((Bx v1.fa p2.fj).bind fun v6 =>
   AP ((decide (v6 < 0)))
    (some (v1, false))
    ((Bx v1.fa p2.fj).bind fun _ =>
    Bf (fun (v9 : (List Int)) =>
     some ((Ab.mk v9 (v1.fa.set ((p2.fj).toNat) ((-1))) v1.fe), true))
    fun j9 =>
    AP ((p2.ff == 2))
     ((Bx v1.fd p2.fj).bind fun _ =>
     j9 (v1.fd.set ((p2.fj).toNat) v6))
     (j9 v1.fd))))
def DK (N : Nat) (p0 : Ah) (p1 : List Int) (p2 : List Int) (p3 : List Int) (p4 : List An) (p5 : List Int) (p6 : List Int) (p7 : List Int) : Option Bool :=
 (FQ N ((Aa.mk p1 p2 p3 p4)) ((Ab.mk p5 p6 p7)) p0).bind fun v1 =>
 some ((!v1.2))
def AY (N : Nat) (p0 : List Ah) (p1 : Ah → Option Bool) (j1 : Unit → Option Int) : Nat → Int → Option Int
 | 0, _ => none
 | n1 + 1, v1 =>
  AP ((decide (v1 < (p0.length : Int))))
   ((Bx p0 v1).bind fun v4 =>
   (p1 v4).bind fun v5 =>
   AP v5
    (some v1)
    (AY N p0 p1 j1 n1 (wI .i64 (v1 + 1))))
   (j1 ())
def BQ (N : Nat) (p0 : List Ah) (p1 : Ah → Option Bool) : Option Int :=
 AY N p0 p1 (fun (_ : Unit) =>
  some ((-1))) N 0
def AV (N : Nat) (p1 : Ah → Option Bool) (j3 : ((List Ah) × Int) → Option (Nat × (List Ah))) : Nat → ((List Ah) × Int × Int) → Option (Nat × (List Ah))
 | 0, _ => none
 | n3 + 1, v3 =>
  AP ((decide (v3.2.2 < (v3.1.length : Int))))
   (Bf (fun (v6 : (List Ah) × Int) =>
    AV N p1 j3 n3 (v6.1, v6.2, (wI .i64 (v3.2.2 + 1))))
   fun j6 =>
   (Bx v3.1 v3.2.2).bind fun v7 =>
   (p1 v7).bind fun v8 =>
   AP ((!v8))
    ((Bx v3.1 v3.2.1).bind fun _ =>
    j6 (v3.1.set ((v3.2.1).toNat) v7, (wI .i64 (v3.2.1 + 1))))
    (j6 (v3.1, v3.2.1)))
   (j3 (v3.1, v3.2.1))
def BP (N : Nat) (p0 : List Ah) (p1 : Ah → Option Bool) : Option (Nat × (List Ah)) :=
 (BQ N p0 p1).bind fun v1 =>
 AP ((v1 == (-1)))
  (some (p0.length, p0))
  (AV N p1 (fun (v4 : (List Ah) × Int) =>
   (DT ((0 : Int) ≤ v4.2 ∧ (v4.2).toNat ≤ v4.1.length ∧ v4.1.length ≤ v4.1.length)).bind fun _ =>
   (DT ((0 : Int) ≤ v4.2 ∧ 0 ≤ (v4.2).toNat ∧ (v4.2).toNat ≤ (HY v4.1 ((v4.2).toNat) (zA2 ((v4.1.length - (v4.2).toNat)) ((Ah.mk 0 0 0)))).length)).bind fun _ =>
   some ((v4.2).toNat, HY v4.1 ((v4.2).toNat) (zA2 ((v4.1.length - (v4.2).toNat)) ((Ah.mk 0 0 0))))) N (p0, v1, (wI .i64 (v1 + 1))))
def DV (N : Nat) (p0 : Aa) (p1 : Ab) : Option ((List Ah) × Int) :=
 (E6 N p0 p1).bind fun v1 =>
 AP ((v1 != 0))
  (some (([] : List Ah), v1))
  ((It N p0).bind fun v3 =>
  (BP N v3 ((fun (x : Ah) => DK N x p0.fb p0.fh p0.fi p0.fc p1.fd p1.fa p1.fe))).bind fun v4 =>
  (DT (v4.1 ≤ v4.2.length)).bind fun _ =>
  some (v4.2.take v4.1, 0))
def G5 (_ : Nat) (p0 : Ah) : Option Bool :=
 Bf (fun (v1 : Bool) =>
  AP v1
   (some false)
   (Bf (fun (v5 : Bool) =>
    some v5)
   fun j5 =>
   AP ((p0.ff == 1))
    (j5 true)
    (j5 (p0.fp == 0))))
 fun j1 =>
 AP ((decide ((WN p0.fj p0.fp) < 0)))
  (j1 true)
  (AP ((decide (p0.ff < 1)))
   (j1 true)
   (j1 (decide (4 < p0.ff))))
def GC (_ : Nat) (p0 : Aa) (p1 : Ah) : Option Bool :=
 AP ((p1.ff == 3))
  (some ((decide (p1.fj < (p0.fc.length : Int)))))
  (Bf (fun (v2 : Bool) =>
   some v2)
  fun j2 =>
  AP ((decide (p1.fj < (p0.fb.length : Int))))
   (AP ((p1.ff != 1))
    (j2 true)
    ((Bx p0.fb p1.fj).bind fun v5 =>
    j2 (decide (p1.fp < v5))))
   (j2 false))
def Hf (N : Nat) (p0 : Aa) (p1 : Ab) (p2 : Ah) : Option (Ab × Int) :=
 (G5 N p2).bind fun v1 =>
 AP ((!v1))
  (some ((Ab.mk (([] : List Int)) (([] : List Int)) (([] : List Int))), 1))
  ((GC N p0 p2).bind fun v3 =>
  AP ((!v3))
   (some ((Ab.mk (([] : List Int)) (([] : List Int)) (([] : List Int))), 4))
   ((FQ N p0 p1 p2).bind fun v5 =>
   AP ((!v5.2))
    (some ((Ab.mk (([] : List Int)) (([] : List Int)) (([] : List Int))), 11))
    (some (v5.1, 0))))
def FG (N : Nat) (p0 : Aa) (p1 : Ab) (p2 : Ah) : Option (Ab × Int) :=
 (E6 N p0 p1).bind fun v1 =>
 AP ((v1 != 0))
  (some ((Ab.mk (([] : List Int)) (([] : List Int)) (([] : List Int))), v1))
  ((Hf N p0 p1 p2).bind fun v3 =>
  some (v3.1, v3.2))
def Fe (N : Nat) (p0 : Aa) (p1 : Ab) (v1 : (List Ah) × Int) (j2 : ((List Ah) × (List Ab)) → Option ((List Ah) × (List Ab))) : Nat → ((List Ah) × (List Ab) × Int) → Option ((List Ah) × (List Ab))
 | 0, _ => none
 | n2 + 1, v2 =>
  AP ((decide (v2.2.2 < (v1.1.length : Int))))
   (Bf (fun (v5 : (List Ah) × (List Ab)) =>
    Fe N p0 p1 v1 j2 n2 (v5.1, v5.2, (wI .i64 (v2.2.2 + 1))))
   fun j5 =>
   (Bx v1.1 v2.2.2).bind fun v6 =>
   (FG N p0 p1 v6).bind fun v7 =>
   AP ((v7.2 != 0))
    (j5 (v2.1, v2.2.1))
    ((EF N p0 v7.1).bind fun v9 =>
    AP v9.1
     ((DT (v2.1.length + (([v6] : List Ah)).length ≤ Dw)).bind fun _ =>
     (DT (v2.2.1.length + (([v7.1] : List Ab)).length ≤ Dw)).bind fun _ =>
     j5 (v2.1 ++ (([v6] : List Ah)), v2.2.1 ++ (([v7.1] : List Ab))))
     (j5 (v2.1, v2.2.1))))
   (j2 (v2.1, v2.2.1))
def Hb (N : Nat) (p0 : Aa) (p1 : Ab) : Option ((List Ah) × (List Ab)) :=
 (DV N p0 p1).bind fun v1 =>
 Fe N p0 p1 v1 (fun (v3 : (List Ah) × (List Ab)) =>
  some (v3.1, v3.2)) N (([] : List Ah), ([] : List Ab), 0)
def Ce (_ : Nat) (p0 : List Ab) (p1 : (Ab × Ab) → Option Int) : Option (List Ab) := OJ p1 KU p0
def Fb (_ : Nat) (p0 : Int) : Option Bool :=
 some ((p0 != p0))
def Cz (N : Nat) (p0 : Int) (p1 : Int) : Option Int :=
 (Fb N p0).bind fun v1 =>
 (Fb N p1).bind fun v2 =>
 AP v1
  (AP v2
   (some 0)
   (some ((-1))))
  (AP v2
   (some 1)
   (AP ((decide (p0 < p1)))
    (some ((-1)))
    (AP ((decide (p1 < p0)))
     (some 1)
     (some 0))))
def Cq (N : Nat) (p0 : List Int) (p1 : List Int) (j1 : Unit → Option Int) : Nat → Int → Option Int
 | 0, _ => none
 | n1 + 1, v1 =>
  AP ((decide (v1 < (p0.length : Int))))
   ((Bx p0 v1).bind fun v4 =>
   AP ((decide ((p1.length : Int) ≤ v1)))
    (some 1)
    ((Bx p1 v1).bind fun v6 =>
    (Cz N v4 v6).bind fun v7 =>
    AP ((v7 != 0))
     (some v7)
     (Cq N p0 p1 j1 n1 (wI .i64 (v1 + 1)))))
   (j1 ())
def CU (N : Nat) (p0 : List Int) (p1 : List Int) : Option Int :=
 Cq N p0 p1 (fun (_ : Unit) =>
  AP ((decide ((p0.length : Int) < (p1.length : Int))))
   (some ((-1)))
   (some 0)) N 0
def EK (_ : Nat) (p0 : Int) : Option Bool :=
 some ((p0 != p0))
def Ei (N : Nat) (p0 : Int) (p1 : Int) : Option Int :=
 (EK N p0).bind fun v1 =>
 (EK N p1).bind fun v2 =>
 AP v1
  (AP v2
   (some 0)
   (some ((-1))))
  (AP v2
   (some 1)
   (AP ((decide (p0 < p1)))
    (some ((-1)))
    (AP ((decide (p1 < p0)))
     (some 1)
     (some 0))))
def Bu (N : Nat) (p0 : List Int) (p1 : List Int) (j1 : Unit → Option Int) : Nat → Int → Option Int
 | 0, _ => none
 | n1 + 1, v1 =>
  AP ((decide (v1 < (p0.length : Int))))
   ((Bx p0 v1).bind fun v4 =>
   AP ((decide ((p1.length : Int) ≤ v1)))
    (some 1)
    ((Bx p1 v1).bind fun v6 =>
    (Ei N v4 v6).bind fun v7 =>
    AP ((v7 != 0))
     (some v7)
     (Bu N p0 p1 j1 n1 (wI .i64 (v1 + 1)))))
   (j1 ())
def Co (N : Nat) (p0 : List Int) (p1 : List Int) : Option Int :=
 Bu N p0 p1 (fun (_ : Unit) =>
  AP ((decide ((p0.length : Int) < (p1.length : Int))))
   (some ((-1)))
   (some 0)) N 0
def Fc (N : Nat) (p0 : List Int) (j1 : Unit → Option Int) : Nat → Int → Option Int
 | 0, _ => none
 | n1 + 1, v1 =>
  AP ((decide (v1 < (p0.length : Int))))
   ((Bx p0 v1).bind fun v4 =>
   AP ((v4 != 0))
    (some v4)
    (Fc N p0 j1 n1 (wI .i64 (v1 + 1))))
   (j1 ())
def Gl (N : Nat) (p0 : List Int) : Option Int :=
 Fc N p0 (fun (_ : Unit) =>
  some 0) N 0
def CK (N : Nat) (p0 : Ab) (p1 : Ab) : Option Int :=
 (CU N p0.fd p1.fd).bind fun v1 =>
 (CU N p0.fa p1.fa).bind fun v2 =>
 (Co N p0.fe p1.fe).bind fun v3 =>
 (Gl N (([v1, v2, v3] : List Int))).bind fun v4 =>
 some v4
def Eo (N : Nat) (v10 : (List Ah) × (List Ab)) (j11 : ((List Ab) × (List (ByteArray × Bool))) → Option ((List Ab) × Int)) : Nat → ((List Ab) × (List (ByteArray × Bool)) × Int) → Option ((List Ab) × Int)
 | 0, _ => none
 | n11 + 1, v11 =>
  AP ((decide (v11.2.2 < (v10.2.length : Int))))
   (Bf (fun (v14 : (List Ab) × (List (ByteArray × Bool))) =>
    Eo N v10 j11 n11 (v14.1, v14.2, (wI .i64 (v11.2.2 + 1))))
   fun j14 =>
   (Bx v10.2 v11.2.2).bind fun v15 =>
   (F9 N v15).bind fun v16 =>
   AP ((!(((JQ v16 v11.2.1).getD false))))
    ((F9 N v15).bind fun v18 =>
    (DT (v11.1.length + (([v15] : List Ab)).length ≤ Dw)).bind fun _ =>
    j14 (v11.1 ++ (([v15] : List Ab)), Nu v18 true v11.2.1))
    (j14 (v11.1, v11.2.1)))
   (j11 (v11.1, v11.2.1))
def DX (N : Nat) (p0 : Aa) (j6 : ((List Ab)) → Option ((List Ab) × Int)) : Nat → ((List Ab) × (List (ByteArray × Bool)) × Int) → Option ((List Ab) × Int)
 | 0, _ => none
 | n6 + 1, v6 =>
  AP ((decide (v6.2.2 < (v6.1.length : Int))))
   ((Bx v6.1 v6.2.2).bind fun v9 =>
   (Hb N p0 v9).bind fun v10 =>
   Eo N v10 (fun (v12 : (List Ab) × (List (ByteArray × Bool))) =>
    AP ((decide (20000 < (v12.1.length : Int))))
     (some (([] : List Ab), 3))
     (DX N p0 j6 n6 (v12.1, v12.2, (wI .i64 (v6.2.2 + 1))))) N (v6.1, v6.2.1, 0))
   (j6 v6.1)
def E0 (N : Nat) (p0 : Aa) : Option ((List Ab) × Int) :=
 (Gy N p0).bind fun v1 =>
 Bf (fun (v2 : Bool) =>
  AP v2
   (some (([] : List Ab), v1.2.2))
   ((F9 N v1.1).bind fun v5 =>
   DX N p0 (fun (v7 : (List Ab)) =>
    (Ce N v7 ((fun (x : Ab × Ab) => CK N x.1 x.2))).bind fun v21 =>
    some (v21, 0)) N (([v1.1] : List Ab), Nu v5 true (([] : List (ByteArray × Bool))), 0)))
 fun j2 =>
 AP ((v1.2.2 != 0))
  (j2 true)
  (j2 (!v1.2.1))
def Ch (N : Nat) (p0 : List Int) (p1 : List Int) (j2 : Unit → Option Bool) : Nat → Int → Option Bool
 | 0, _ => none
 | n2 + 1, v2 =>
  AP ((decide (v2 < (p0.length : Int))))
   ((Bx p0 v2).bind fun v5 =>
   (Bx p1 v2).bind fun v6 =>
   AP ((v5 != v6))
    (some false)
    (Ch N p0 p1 j2 n2 (wI .i64 (v2 + 1))))
   (j2 ())
def D2 (N : Nat) (p0 : List Int) (p1 : List Int) : Option Bool :=
 AP (((p0.length : Int) != (p1.length : Int)))
  (some false)
  (Ch N p0 p1 (fun (_ : Unit) =>
   some true) N 0)
def Bg (N : Nat) (p0 : List Int) (p1 : Int → Option Bool) (j1 : Unit → Option Int) : Nat → Int → Option Int
 | 0, _ => none
 | n1 + 1, v1 =>
  AP ((decide (v1 < (p0.length : Int))))
   ((Bx p0 v1).bind fun v4 =>
   (p1 v4).bind fun v5 =>
   AP v5
    (some v1)
    (Bg N p0 p1 j1 n1 (wI .i64 (v1 + 1))))
   (j1 ())
def D8 (N : Nat) (p0 : List Int) (p1 : Int → Option Bool) : Option Int :=
 Bg N p0 p1 (fun (_ : Unit) =>
  some ((-1))) N 0
def CL (N : Nat) (p0 : List Int) (p1 : Int → Option Bool) : Option Bool :=
 (D8 N p0 p1).bind fun v1 =>
 some ((decide (0 ≤ v1)))
def G1 (_ : Nat) (p0 : Int) : Option Bool :=
 some ((decide (0 ≤ p0)))
def Ht (N : Nat) (p0 : Aa) (p1 : Ab) : Option Bool :=
 Bf (fun (v1 : Bool) =>
  some v1)
 fun j1 =>
 (E6 N p0 p1).bind fun v2 =>
 AP ((v2 == 0))
  ((D2 N p1.fd p0.fi).bind fun v4 =>
  AP v4
   ((CL N p1.fa ((fun (x : Int) => G1 N x))).bind fun v6 =>
   j1 (!v6))
   (j1 false))
  (j1 false)
def Ek (N : Nat) (p0 : Ab) (p1 : List Int) (p2 : List Int) (p3 : List Int) (p4 : List An) : Option Bool :=
 (Ht N ((Aa.mk p1 p2 p3 p4)) p0).bind fun v1 =>
 some v1
def A3 (N : Nat) (p0 : List Ab) (p1 : Ab → Option Bool) (j1 : Unit → Option Int) : Nat → Int → Option Int
 | 0, _ => none
 | n1 + 1, v1 =>
  AP ((decide (v1 < (p0.length : Int))))
   ((Bx p0 v1).bind fun v4 =>
   (p1 v4).bind fun v5 =>
   AP v5
    (some v1)
    (A3 N p0 p1 j1 n1 (wI .i64 (v1 + 1))))
   (j1 ())
def CN (N : Nat) (p0 : List Ab) (p1 : Ab → Option Bool) : Option Int :=
 A3 N p0 p1 (fun (_ : Unit) =>
  some ((-1))) N 0
def Bh (N : Nat) (p0 : List Ab) (p1 : Ab → Option Bool) : Option Bool :=
 (CN N p0 p1).bind fun v1 =>
 some ((decide (0 ≤ v1)))
def Fu (N : Nat) (p0 : Aa) : Option ((List Ab) × Int) :=
 (E0 N p0).bind fun v1 =>
 AP ((v1.2 != 0))
  (some (([] : List Ab), v1.2))
  ((Bh N v1.1 ((fun (x : Ab) => Ek N x p0.fb p0.fh p0.fi p0.fc))).bind fun v3 =>
  AP v3
   (some (([] : List Ab), 15))
   (some (v1.1, 0)))
def CR (N : Nat) (p0 : Aa) (p1 : Ab) (v1 : (List Ah) × Int) (j3 : ((List BD)) → Option ((List BD) × Int)) : Nat → ((List BD) × Int) → Option ((List BD) × Int)
 | 0, _ => none
 | n3 + 1, v3 =>
  AP ((decide (v3.2 < (v1.1.length : Int))))
   (Bf (fun (v6 : (List BD)) =>
    CR N p0 p1 v1 j3 n3 (v6, (wI .i64 (v3.2 + 1))))
   fun j6 =>
   (Bx v1.1 v3.2).bind fun v7 =>
   (FG N p0 p1 v7).bind fun v8 =>
   (GR N p0 v8.1).bind fun v9 =>
   AP ((v9.2.2 == 0))
    ((DT (v3.1.length + (([(BD.mk v7 v9.1 v9.2.1)] : List BD)).length ≤ Dw)).bind fun _ =>
    j6 (v3.1 ++ (([(BD.mk v7 v9.1 v9.2.1)] : List BD))))
    (j6 v3.1))
   (j3 v3.1)
def FC (N : Nat) (p0 : Aa) (p1 : Ab) : Option ((List BD) × Int) :=
 (DV N p0 p1).bind fun v1 =>
 AP ((v1.2 != 0))
  (some (([] : List BD), v1.2))
  (CR N p0 p1 v1 (fun (v4 : (List BD)) =>
   some (v4, 0)) N (([] : List BD), 0))
def DF (N : Nat) (p0 : Aa) (p1 : List Ab) (j3 : ((List BD)) → Option ((List BD) × Int)) : Nat → ((List BD) × Int) → Option ((List BD) × Int)
 | 0, _ => none
 | n3 + 1, v3 =>
  AP ((decide (v3.2 < (p1.length : Int))))
   ((Bx p1 v3.2).bind fun v6 =>
   (FC N p0 v6).bind fun v7 =>
   AP ((v7.2 != 0))
    (some (([] : List BD), v7.2))
    ((DT (v3.1.length + v7.1.length ≤ Dw)).bind fun _ =>
    DF N p0 p1 j3 n3 (v3.1 ++ v7.1, (wI .i64 (v3.2 + 1)))))
   (j3 v3.1)
def Fd (N : Nat) (p0 : Aa) (p1 : List Ab) : Option ((List BD) × Int) :=
 (CH N p0).bind fun v1 =>
 AP ((v1 != 0))
  (some (([] : List BD), v1))
  (DF N p0 p1 (fun (v4 : (List BD)) =>
   some (v4, 0)) N (([] : List BD), 0))
def Bi (_ : Nat) (p0 : List Ad) (p1 : (Ad × Ad) → Option Int) : Option (List Ad) := OJ p1 G7 p0
def Cn (N : Nat) (p0 : Ad) (p1 : Ad) : Option Int :=
 (Cz N p0.fr p1.fr).bind fun v1 =>
 (Cz N p0.fq p1.fq).bind fun v2 =>
 (Cz N p0.fu p1.fu).bind fun v3 =>
 (Gl N (([v1, v2, v3] : List Int))).bind fun v4 =>
 some v4
def BG (N : Nat) (p0 : List Ad) (v2 : Int) (j10 : ((List Ad) × Int) → Option (Nat × (List Ad))) : Nat → ((List Ad) × Int × Int) → Option (Nat × (List Ad))
 | 0, _ => none
 | n10 + 1, v10 =>
  AP ((decide (v10.2.2 < ((((p0.length - (v2).toNat)) : Nat) : Int))))
   (Bf (fun (v13 : (List Ad) × Int) =>
    BG N p0 v2 j10 n10 (v13.1, v13.2, (wI .i64 (v10.2.2 + 1))))
   fun j13 =>
   (DT (((v2).toNat) + ((p0.length - (v2).toNat)) ≤ v10.1.length)).bind fun _ =>
   (Bx (((v10.1.drop ((v2).toNat)).take ((p0.length - (v2).toNat)))) v10.2.2).bind fun v14 =>
   (Bx (((v10.1.drop ((v2).toNat)).take ((p0.length - (v2).toNat)))) ((wI .i64 (v10.2.2 - 1)))).bind fun v16 =>
   AP ((!((v14.fr == v16.fr) && ((v14.fq == v16.fq) && ((v14.fu == v16.fu) && true)))))
    ((Bx (((v10.1.drop ((v2).toNat)).take ((p0.length - (v2).toNat)))) v10.2.2).bind fun v18 =>
    (Bx v10.1 v10.2.1).bind fun _ =>
    j13 (v10.1.set ((v10.2.1).toNat) v18, (wI .i64 (v10.2.1 + 1))))
    (j13 (v10.1, v10.2.1)))
   (j10 (v10.1, v10.2.1))
def BM (N : Nat) (p0 : List Ad) (j2 : Unit → Option (Nat × (List Ad))) : Nat → Int → Option (Nat × (List Ad))
 | 0, _ => none
 | n2 + 1, v2 =>
  AP ((decide (v2 < (p0.length : Int))))
   ((Bx p0 v2).bind fun v5 =>
   (Bx p0 ((wI .i64 (v2 - 1)))).bind fun v6 =>
   AP (((v5.fr == v6.fr) && ((v5.fq == v6.fq) && ((v5.fu == v6.fu) && true))))
    ((DT ((0 : Int) ≤ v2 ∧ (v2).toNat ≤ p0.length ∧ p0.length ≤ p0.length)).bind fun _ =>
    BG N p0 v2 (fun (v11 : (List Ad) × Int) =>
     (DT ((0 : Int) ≤ v11.2 ∧ (v11.2).toNat ≤ v11.1.length ∧ v11.1.length ≤ v11.1.length)).bind fun _ =>
     (DT ((0 : Int) ≤ v11.2 ∧ 0 ≤ (v11.2).toNat ∧ (v11.2).toNat ≤ (HY v11.1 ((v11.2).toNat) (zA2 ((v11.1.length - (v11.2).toNat)) ((Ad.mk 0 0 0)))).length)).bind fun _ =>
     some ((v11.2).toNat, HY v11.1 ((v11.2).toNat) (zA2 ((v11.1.length - (v11.2).toNat)) ((Ad.mk 0 0 0))))) N (p0, v2, 1))
    (BM N p0 j2 n2 (wI .i64 (v2 + 1))))
   (j2 ())
def A4 (N : Nat) (p0 : List Ad) : Option (Nat × (List Ad)) :=
 AP ((decide ((p0.length : Int) < 2)))
  (some (p0.length, p0))
  (BM N p0 (fun (_ : Unit) =>
   some (p0.length, p0)) N 1)
def Dn (N : Nat) (v1 : (List BD) × Int) (j3 : ((List Ad)) → Option ((List Ad) × Int)) : Nat → ((List Ad) × Int) → Option ((List Ad) × Int)
 | 0, _ => none
 | n3 + 1, v3 =>
  AP ((decide (v3.2 < (v1.1.length : Int))))
   ((Bx v1.1 v3.2).bind fun v6 =>
   (DT (v3.1.length + (([(Ad.mk v6.fv.fr v6.fv.fq v6.fv.fu)] : List Ad)).length ≤ Dw)).bind fun _ =>
   Dn N v1 j3 n3 (v3.1 ++ (([(Ad.mk v6.fv.fr v6.fv.fq v6.fv.fu)] : List Ad)), (wI .i64 (v3.2 + 1))))
   (j3 v3.1)
def EW (N : Nat) (p0 : Aa) (p1 : List Ab) : Option ((List Ad) × Int) :=
 (Fd N p0 p1).bind fun v1 =>
 AP ((v1.2 != 0))
  (some (([] : List Ad), v1.2))
  (Dn N v1 (fun (v4 : (List Ad)) =>
   (Bi N v4 ((fun (x : Ad × Ad) => Cn N x.1 x.2))).bind fun v8 =>
   (A4 N v8).bind fun v9 =>
   (DT (v9.1 ≤ v9.2.length)).bind fun _ =>
   some (v9.2.take v9.1, 0)) N (([] : List Ad), 0))
def Fl (N : Nat) (p0 : Aa) (v8 : Ab) (j11 : Int → Option (Int × Ab × Int)) : Nat → (Int × Int) → Option (Int × Ab × Int)
 | 0, _ => none
 | n11 + 1, v11 =>
  AP ((decide (v11.2 < (p0.fi.length : Int))))
   (Bf (fun (v14 : Int) =>
    Fl N p0 v8 j11 n11 (v14, (wI .i64 (v11.2 + 1))))
   fun j14 =>
   (Bx p0.fi v11.2).bind fun v15 =>
   Bf (fun (v16 : Bool) =>
    AP v16
     (j14 (wI .i64 (v11.1 + 1)))
     (j14 v11.1))
   fun j16 =>
   (Bx v8.fd v11.2).bind fun v17 =>
   AP ((v17 == v15))
    ((Bx v8.fa v11.2).bind fun v19 =>
    j16 (decide (v19 < 0)))
    (j16 false))
   (j11 v11.1)
def FB (N : Nat) (p0 : Aa) (p1 : List Ab) (j4 : (Int × Int) → Option (Int × Ab × Int)) : Nat → (Int × Int × Int) → Option (Int × Ab × Int)
 | 0, _ => none
 | n4 + 1, v4 =>
  AP ((decide (v4.2.2 < (p1.length : Int))))
   (Bf (fun (v7 : Int × Int) =>
    FB N p0 p1 j4 n4 (v7.1, v7.2, (wI .i64 (v4.2.2 + 1))))
   fun j7 =>
   (Bx p1 v4.2.2).bind fun v8 =>
   (E6 N p0 v8).bind fun v9 =>
   AP ((v9 != 0))
    (some (0, (Ab.mk (([] : List Int)) (([] : List Int)) (([] : List Int))), v9))
    (Fl N p0 v8 (fun (v12 : Int) =>
     AP ((decide (v4.1 < v12)))
      (j7 (v12, v4.2.2))
      (j7 (v4.1, v4.2.1))) N (0, 0)))
   (j4 (v4.1, v4.2.1))
def HH (N : Nat) (p0 : Aa) (p1 : List Ab) : Option (Int × Ab × Int) :=
 (CH N p0).bind fun v1 =>
 AP ((v1 != 0))
  (some (0, (Ab.mk (([] : List Int)) (([] : List Int)) (([] : List Int))), v1))
  (AP (((p1.length : Int) == 0))
   (some (0, (Ab.mk (([] : List Int)) (([] : List Int)) (([] : List Int))), 10))
   (FB N p0 p1 (fun (v5 : Int × Int) =>
    (Bx p1 v5.2).bind fun v22 =>
    (Bl N v22.fd).bind fun v23 =>
    (Bl N v22.fa).bind fun v24 =>
    (Bz N v22.fe).bind fun v25 =>
    some (v5.1, (Ab.mk v23 v24 v25), 0)) N ((-1), 0, 0)))
def Dp (N : Nat) (p0 : Ab) (p1 : Ab) : Option Bool :=
 (B3 N p0 p1).bind fun v1 =>
 some ((v1 == 0))
def E3 (N : Nat) (p0 : List Ab) (p1 : List Ab) (j2 : Unit → Option Bool) : Nat → Int → Option Bool
 | 0, _ => none
 | n2 + 1, v2 =>
  AP ((decide (v2 < (p0.length : Int))))
   ((Bx p0 v2).bind fun v5 =>
   (Bx p1 v2).bind fun v6 =>
   (Dp N v5 v6).bind fun v7 =>
   AP ((!v7))
    (some false)
    (E3 N p0 p1 j2 n2 (wI .i64 (v2 + 1))))
   (j2 ())
def GX (N : Nat) (p0 : List Ab) (p1 : List Ab) : Option Bool :=
 AP (((p0.length : Int) != (p1.length : Int)))
  (some false)
  (E3 N p0 p1 (fun (_ : Unit) =>
   some true) N 0)
def AX (N : Nat) (p0 : List Ab) (p1 : Ab) (p2 : (Ab × Ab) → Option Int) (j1 : Int → Option (Int × Bool)) : Nat → (Int × Int) → Option (Int × Bool)
 | 0, _ => none
 | n1 + 1, v1 =>
  AP ((decide (v1.1 < v1.2)))
   ((Bx p0 ((wI .i64 ((FI .u64 ((wI .u64 ((wI .i64 (v1.1 + v1.2))))) 1))))).bind fun v4 =>
   (p2 ((v4, p1))).bind fun v5 =>
   AP ((decide (v5 < 0)))
    (AX N p0 p1 p2 j1 n1 ((wI .i64 ((wI .i64 ((FI .u64 ((wI .u64 ((wI .i64 (v1.1 + v1.2))))) 1))) + 1)), v1.2))
    (AX N p0 p1 p2 j1 n1 (v1.1, (wI .i64 ((FI .u64 ((wI .u64 ((wI .i64 (v1.1 + v1.2))))) 1))))))
   (j1 v1.1)
def Cg (N : Nat) (p0 : List Ab) (p1 : Ab) (p2 : (Ab × Ab) → Option Int) : Option (Int × Bool) :=
 AX N p0 p1 p2 (fun (v2 : Int) =>
  Bf (fun (v7 : Bool) =>
   some (v2, v7))
  fun j7 =>
  AP ((decide (v2 < (p0.length : Int))))
   ((Bx p0 v2).bind fun v9 =>
   (p2 ((v9, p1))).bind fun v10 =>
   j7 (v10 == 0))
   (j7 false)) N (0, (p0.length : Int))
def GN (N : Nat) (p0 : List Ab) (p1 : Ab) : Option Bool :=
 (Cg N p0 p1 ((fun (x : Ab × Ab) => CK N x.1 x.2))).bind fun v1 =>
 some v1.2
def Gb (N : Nat) (p0 : Aa) (p1 : List Ab) (j5 : Unit → Option Bool) : Nat → Int → Option Bool
 | 0, _ => none
 | n5 + 1, v5 =>
  AP ((decide (v5 < (p1.length : Int))))
   ((Bx p1 v5).bind fun v8 =>
   Bf (fun (v9 : Bool) =>
    AP v9
     (some false)
     ((EF N p0 v8).bind fun v14 =>
     Bf (fun (v15 : Bool) =>
      AP v15
       (some false)
       (Gb N p0 p1 j5 n5 (wI .i64 (v5 + 1))))
     fun j15 =>
     AP ((!v14.1))
      (j15 true)
      (AP ((v14.2 != 0))
       (j15 true)
       ((Ht N p0 v8).bind fun v18 =>
       j15 v18))))
   fun j9 =>
   AP ((decide (0 < v5)))
    ((Bx p1 ((wI .i64 (v5 - 1)))).bind fun v11 =>
    (CK N v11 v8).bind fun v12 =>
    j9 (decide (0 ≤ v12)))
    (j9 false))
   (j5 ())
def FT (N : Nat) (p0 : Aa) (p1 : List Ab) (v25 : Ab) (v26 : (List Ah) × Int) (j27 : Unit → Option Bool) : Nat → Int → Option Bool
 | 0, _ => none
 | n27 + 1, v27 =>
  AP ((decide (v27 < (v26.1.length : Int))))
   ((Bx v26.1 v27).bind fun v30 =>
   (FG N p0 v25 v30).bind fun v31 =>
   (EF N p0 v31.1).bind fun v32 =>
   Bf (fun (v33 : Bool) =>
    AP v33
     (some false)
     (FT N p0 p1 v25 v26 j27 n27 (wI .i64 (v27 + 1))))
   fun j33 =>
   AP v32.1
    ((GN N p1 v31.1).bind fun v35 =>
    j33 (!v35))
    (j33 false))
   (j27 ())
def zFS (N : Nat) (p0 : Aa) (p1 : List Ab) (j22 : Unit → Option Bool) : Nat → Int → Option Bool
 | 0, _ => none
 | n22 + 1, v22 =>
  AP ((decide (v22 < (p1.length : Int))))
   ((Bx p1 v22).bind fun v25 =>
   (DV N p0 v25).bind fun v26 =>
   FT N p0 p1 v25 v26 (fun (_ : Unit) =>
    zFS N p0 p1 j22 n22 (wI .i64 (v22 + 1))) N 0)
   (j22 ())
def Gj (N : Nat) (p0 : Aa) (p1 : List Ab) : Option Bool :=
 (GH N p0).bind fun v1 =>
 AP ((v1.2 != 0))
  (some false)
  ((EF N p0 v1.1).bind fun v3 =>
  AP ((!v3.1))
   (some (((p1.length : Int) == 0)))
   (Gb N p0 p1 (fun (_ : Unit) =>
    (GN N p1 v1.1).bind fun v20 =>
    AP ((!v20))
     (some false)
     (zFS N p0 p1 (fun (_ : Unit) =>
      some true) N 0)) N 0))
def DU (N : Nat) (p0 : List Ad) (p1 : List Ad) (j2 : Unit → Option Bool) : Nat → Int → Option Bool
 | 0, _ => none
 | n2 + 1, v2 =>
  AP ((decide (v2 < (p0.length : Int))))
   ((Bx p0 v2).bind fun v5 =>
   (Bx p1 v2).bind fun v6 =>
   AP ((!((v5.fr == v6.fr) && ((v5.fq == v6.fq) && ((v5.fu == v6.fu) && true)))))
    (some false)
    (DU N p0 p1 j2 n2 (wI .i64 (v2 + 1))))
   (j2 ())
def Fq (N : Nat) (p0 : List Ad) (p1 : List Ad) : Option Bool :=
 AP (((p0.length : Int) != (p1.length : Int)))
  (some false)
  (DU N p0 p1 (fun (_ : Unit) =>
   some true) N 0)
def D3 (N : Nat) : Option Bool :=
 (B0 N).bind fun v1 =>
 (Fu N v1).bind fun v2 =>
 (B0 N).bind fun v3 =>
 (Fd N v3 v2.1).bind fun v4 =>
 (B0 N).bind fun v5 =>
 (EW N v5 v2.1).bind fun v6 =>
 (B0 N).bind fun v7 =>
 (HH N v7 v2.1).bind fun v8 =>
 Bf (fun (v9 : Bool) =>
  Bf (fun (v13 : Bool) =>
   Bf (fun (v25 : Bool) =>
    some v25)
   fun j25 =>
   AP v13
    (AP (((v4.1.length : Int) == 1))
     ((Bx v4.1 0).bind fun v28 =>
     AP (((v28.fy.ff == 1) && ((v28.fy.fj == 0) && ((v28.fy.fp == 1) && true))))
      ((Bx v4.1 0).bind fun v30 =>
      AP (((v30.fv.fr == 0) && ((v30.fv.fq == 1) && ((v30.fv.fu == 0) && true))))
       ((Fq N v6.1 (([(Ad.mk 0 1 0)] : List Ad))).bind fun v32 =>
       AP v32
        (AP ((v8.1 == 0))
         ((Dp N v8.2.1 ((Ab.mk (([0] : List Int)) (([(-1)] : List Int)) (([0] : List Int))))).bind fun v35 =>
         j25 v35)
         (j25 false))
        (j25 false))
       (j25 false))
      (j25 false))
     (j25 false))
    (j25 false))
  fun j13 =>
  AP v9
   ((GX N v2.1 (([(Ab.mk (([0] : List Int)) (([(-1)] : List Int)) (([0] : List Int)))] : List Ab))).bind fun v15 =>
   AP v15
    ((B0 N).bind fun v17 =>
    (Gj N v17 v2.1).bind fun v18 =>
    AP v18
     ((B0 N).bind fun v20 =>
     (Gj N v20 (([] : List Ab))).bind fun v21 =>
     AP ((!v21))
      ((B0 N).bind fun v23 =>
      (Gj N v23 (([(Ab.mk (([0] : List Int)) (([(-1)] : List Int)) (([0] : List Int))), (Ab.mk (([1] : List Int)) (([(-1)] : List Int)) (([0] : List Int)))] : List Ab))).bind fun v24 =>
      j13 (!v24))
      (j13 false))
     (j13 false))
    (j13 false))
   (j13 false))
 fun j9 =>
 AP ((v2.2 == 0))
  (AP ((v4.2 == 0))
   (AP ((v6.2 == 0))
    (j9 (v8.2.2 == 0))
    (j9 false))
   (j9 false))
  (j9 false)
def CW (N : Nat) (p0 : Aa) (p1 : Ab) (j3 : Unit → Option Bool) : Nat → Int → Option Bool
 | 0, _ => none
 | n3 + 1, v3 =>
  AP ((decide (v3 < (p1.fd.length : Int))))
   (Bf (fun (v6 : Bool) =>
    AP v6
     (some false)
     (CW N p0 p1 j3 n3 (wI .i64 (v3 + 1))))
   fun j6 =>
   (Bx p1.fa v3).bind fun v7 =>
   AP ((decide (0 ≤ v7)))
    (j6 true)
    ((Bx p1.fd v3).bind fun v9 =>
    (Bx p0.fi v3).bind fun v10 =>
    j6 (v9 != v10)))
   (j3 ())
def E1 (N : Nat) (p0 : Aa) (p1 : Ab) : Option Bool :=
 (D7 N p0 p1).bind fun v1 =>
 AP ((v1 != 0))
  (some false)
  (CW N p0 p1 (fun (_ : Unit) =>
   some true) N 0)
def CV (N : Nat) (p0 : Aa) (p1 : List Ab) (j1 : Unit → Option Bool) : Nat → Int → Option Bool
 | 0, _ => none
 | n1 + 1, v1 =>
  AP ((decide (v1 < (p1.length : Int))))
   ((Bx p1 v1).bind fun v4 =>
   (E1 N p0 v4).bind fun v5 =>
   AP v5
    (some true)
    (CV N p0 p1 j1 n1 (wI .i64 (v1 + 1))))
   (j1 ())
def Eg (N : Nat) (p0 : Aa) (p1 : List Ab) : Option Bool :=
 CV N p0 p1 (fun (_ : Unit) =>
  some false) N 0
def Cf (N : Nat) (p0 : List (List Bool)) (j1 : ((List (List Bool))) → Option ((List (List Bool)))) : Nat → ((List (List Bool)) × Int) → Option ((List (List Bool)))
 | 0, _ => none
 | n1 + 1, v1 =>
  AP ((decide (v1.2 < (p0.length : Int))))
   ((Bx p0 v1.2).bind fun v4 =>
   (DT ((([] : List Bool)).length + v4.length ≤ Dw)).bind fun _ =>
   (DT (v1.1.length + (([(([] : List Bool)) ++ v4] : List (List Bool))).length ≤ Dw)).bind fun _ =>
   Cf N p0 j1 n1 (v1.1 ++ (([(([] : List Bool)) ++ v4] : List (List Bool))), (wI .i64 (v1.2 + 1))))
   (j1 v1.1)
def Dd (N : Nat) (p0 : List (List Bool)) : Option ((List (List Bool))) :=
 Cf N p0 (fun (v2 : (List (List Bool))) =>
  some v2) N (([] : List (List Bool)), 0)
def EV (N : Nat) (p0 : An) (p1 : Int) (p2 : Int) : Option An :=
 (Dd N p0.fk).bind fun v1 =>
 (Dd N p0.fo).bind fun v2 =>
 some ((An.mk p0.ff p1 p2 p0.ft v1 v2))
def B1 (N : Nat) (p0 : Aa) (j6 : ((List An)) → Option (Aa × Int)) : Nat → ((List An) × Int) → Option (Aa × Int)
 | 0, _ => none
 | n6 + 1, v6 =>
  AP ((decide (v6.2 < (p0.fc.length : Int))))
   ((Bx p0.fc v6.2).bind fun v9 =>
   (Bx p0.fc v6.2).bind fun v10 =>
   (Bx p0.fc v6.2).bind fun v11 =>
   (EV N v9 v10.fg v11.fm).bind fun v12 =>
   (DT (v6.1.length + (([v12] : List An)).length ≤ Dw)).bind fun _ =>
   B1 N p0 j6 n6 (v6.1 ++ (([v12] : List An)), (wI .i64 (v6.2 + 1))))
   (j6 v6.1)
def DS (N : Nat) (p0 : Aa) (p1 : List Int) (p2 : List Int) : Option (Aa × Int) :=
 (Bn N p0).bind fun v1 =>
 AP ((v1 != 0))
  (some ((Aa.mk (([] : List Int)) (([] : List Int)) (([] : List Int)) (([] : List An))), v1))
  ((DT ((([] : List Int)).length + p0.fb.length ≤ Dw)).bind fun _ =>
  (DT ((([] : List Int)).length + p1.length ≤ Dw)).bind fun _ =>
  (DT ((([] : List Int)).length + p2.length ≤ Dw)).bind fun _ =>
  B1 N p0 (fun (v7 : (List An)) =>
   (Bn N ((Aa.mk ((([] : List Int)) ++ p0.fb) ((([] : List Int)) ++ p1) ((([] : List Int)) ++ p2) v7))).bind fun v14 =>
   AP ((v14 != 0))
    (some ((Aa.mk (([] : List Int)) (([] : List Int)) (([] : List Int)) (([] : List An))), v14))
    (some ((Aa.mk ((([] : List Int)) ++ p0.fb) ((([] : List Int)) ++ p1) ((([] : List Int)) ++ p2) v7), 0))) N (([] : List An), 0))
def BK (N : Nat) (p0 : Ab) (p1 : List Int) (p2 : List Int) (p3 : List Int) : Option Bool :=
 (Dp N p0 ((Ab.mk p1 p2 p3))).bind fun v1 =>
 some v1
def Bq (N : Nat) (v17 : (List An) × Int) (v20 : Ad) (v32 : An) (v33 : List Bool) (j36 : ((List An)) → Option Bool) : Nat → ((List Bool) × Int) → Option Bool
 | 0, _ => none
 | n36 + 1, v36 =>
  AP ((decide (v36.2 < (v33.length : Int))))
   (Bf (fun (v39 : (List Bool)) =>
    Bq N v17 v20 v32 v33 j36 n36 (v39, (wI .i64 (v36.2 + 1))))
   fun j39 =>
   Bf (fun (v40 : Bool) =>
    AP v40
     ((Bx v36.1 v36.2).bind fun _ =>
     j39 (v36.1.set ((v36.2).toNat) true))
     (j39 v36.1))
   fun j40 =>
   AP ((decide (v20.fu < 0)))
    (j40 true)
    (j40 (v20.fu == v36.2)))
   (j36 (v17.1.set ((v20.fr).toNat) ((An.mk v32.ff v32.fg v32.fm v32.ft (v32.fk.set ((v20.fq).toNat) v36.1) v32.fo))))
def A7 (N : Nat) (v11 : (List Ad) × Int) (j17 : ((List An)) → Option Bool) : Nat → ((List An) × Int) → Option Bool
 | 0, _ => none
 | n17 + 1, v17 =>
  AP ((decide (v17.2 < (v11.1.length : Int))))
   ((Bx v11.1 v17.2).bind fun v20 =>
   Bf (fun (v21 : Bool) =>
    AP v21
     (some false)
     ((Bx v17.1 v20.fr).bind fun v32 =>
     (Bx v32.fk v20.fq).bind fun v33 =>
     (Bx v17.1 v20.fr).bind fun _ =>
     (Bx v32.fk v20.fq).bind fun _ =>
     Bq N v17 v20 v32 v33 (fun (v37 : (List An)) =>
      A7 N v11 j17 n17 (v37, (wI .i64 (v17.2 + 1)))) N (v33, 0)))
   fun j21 =>
   (Bx v17.1 v20.fr).bind fun v22 =>
   (Bx v22.fk v20.fq).bind fun v23 =>
   AP ((decide (v20.fr < 0)))
    (j21 true)
    (AP ((decide ((v17.1.length : Int) ≤ v20.fr)))
     (j21 true)
     (AP ((decide (v20.fq < 0)))
      (j21 true)
      ((Bx v17.1 v20.fr).bind fun _ =>
      AP ((decide ((v22.fk.length : Int) ≤ v20.fq)))
       (j21 true)
       ((Bx v17.1 v20.fr).bind fun _ =>
       (Bx v22.fk v20.fq).bind fun _ =>
       j21 (decide ((v23.length : Int) ≤ v20.fu)))))))
   (j17 v17.1)
def Bs (N : Nat) (v1 : Aa × (List Ab) × Bool) (v44 : (List Ab) × Bool) (j46 : Unit → Option Bool) : Nat → Int → Option Bool
 | 0, _ => none
 | n46 + 1, v46 =>
  AP ((decide (v46 < (v1.2.1.length : Int))))
   ((Bx v1.2.1 v46).bind fun v49 =>
   (Bh N v44.1 ((fun (x : Ab) => BK N x v49.fd v49.fa v49.fe))).bind fun v50 =>
   AP ((!v50))
    (some false)
    (Bs N v1 v44 j46 n46 (wI .i64 (v46 + 1))))
   (j46 ())
def Cr (N : Nat) (p0 : BJ) : Option Bool :=
 (Fw N p0).bind fun v1 =>
 Bf (fun (v2 : Bool) =>
  AP v2
   ((D3 N).bind fun v9 =>
   some v9)
   ((Fu N v1.1).bind fun v10 =>
   (EW N v1.1 v10.1).bind fun v11 =>
   Bf (fun (v12 : Bool) =>
    AP v12
     (some false)
     ((DS N v1.1 v1.1.fh v1.1.fi).bind fun v16 =>
     A7 N v11 (fun (v18 : (List An)) =>
      (C2 N ((Aa.mk v16.1.fb v16.1.fh v16.1.fi v18)) 300).bind fun v44 =>
      AP ((!v44.2))
       (some true)
       (Bs N v1 v44 (fun (_ : Unit) =>
        some ((decide ((v1.2.1.length : Int) ≤ (v44.1.length : Int))))) N 0)) N (v16.1.fc, 0)))
   fun j12 =>
   AP ((v10.2 != 0))
    (j12 true)
    (AP ((v11.2 != 0))
     (j12 true)
     (j12 ((v11.1.length : Int) == 0)))))
 fun j2 =>
 (D3 N).bind fun v3 =>
 AP ((!v3))
  (j2 true)
  (AP ((!v1.2.2))
   (j2 true)
   (AP (((v1.2.1.length : Int) == 0))
    (j2 true)
    ((Eg N v1.1 v1.2.1).bind fun v7 =>
    j2 v7)))
def LL {α : Type} (w : α → Prop) (xs : List α) : Prop := ∀ x, x ∈ xs → w x
def JT (n : Int) : Prop := (Lit.int .u8 n).wf = true
def ZJ (n : Int) : Prop := (Lit.int .u16 n).wf = true
def H1 (x : Hh) : Prop := JT x.ff ∧ JT x.fg ∧ JT x.fm ∧ (fun _ => True) x.ft ∧ ZJ x.fA ∧ ZJ x.fB ∧ True
def FD (x : BJ) : Prop := (LL JT) x.fb ∧ (LL JT) x.fh ∧ (LL JT) x.fi ∧ (LL H1) x.fw ∧ True
open Go.RowKit
open Go.Proofs
abbrev Nt (x : Hh) : List C := [.pure (.val (.int .u8 x.ff)), .pure (.val (.int .u8 x.fg)), .pure (.val (.int .u8 x.fm)), .pure (.val (.bool x.ft)), .pure (.val (.int .u16 x.fA)), .pure (.val (.int .u16 x.fB))]
abbrev CO (x : BJ) : List C := [sC (x.fb.map C8), sC (x.fh.map C8), sC (x.fi.map C8), sC (x.fw.map GM)]
abbrev Be (x : An) : List C := [iC x.ff, iC x.fg, iC x.fm, .pure (.val (.bool x.ft)), sC (x.fk.map (HB eB)), sC (x.fo.map (HB eB))]
abbrev Ag (x : Aa) : List C := [sC (x.fb.map Ap), sC (x.fh.map Ap), sC (x.fi.map Ap), sC (x.fc.map AQ)]
abbrev AB (x : Ab) : List C := [sC (x.fd.map Ap), sC (x.fa.map Ap), sC (x.fe.map C8)]
abbrev FA (x : Ad) : List C := [iC x.fr, iC x.fq, iC x.fu]
abbrev DD (x : Ah) : List C := [iC x.ff, iC x.fj, iC x.fp]
theorem Az : Tryz.prog.follows .mixedOrders = true := by kernel_rfl
theorem wq {X : Im} {y : Code} {id : Nat} {ops : Array Oper} {dr : Bool} {Q : Exit → St → Prop} {st : St} {n : Nat} (hn : ops.size = n) (h : A8 zA0 X ops dr (fun st' => W zA0 X y Q st') n 0 st []) : W zA0 X (.seq (.region id ops dr) y) Q st := cT Az hn h
theorem wp {X : Im} {y z : Code} {id : Nat} {ops : Array Oper} {dr : Bool} {Q : Exit → St → Prop} {st : St} {n : Nat} (hn : ops.size = n) (h : A8 zA0 X ops dr (fun st' => W zA0 X y (Qn (W zA0 X z Q) Q) st') n 0 st []) : W zA0 X (.seq (.seq (.region id ops dr) y) z) Q st := AN (cT Az hn h)
theorem bb : Fp zA0 101 true = true := by kernel_rfl
theorem V2 : Fp zA0 22 false = true := by kernel_rfl
theorem ZM : Fp zA0 23 false = true := by kernel_rfl
theorem Z7 : Fp zA0 25 true = true := by kernel_rfl
theorem A1 : Fp zA0 26 false = true := by kernel_rfl
theorem Gi : Fp zA0 27 false = true := by kernel_rfl
theorem C0 : Fp zA0 29 true = true := by kernel_rfl
theorem BW : Fp zA0 3 false = true := by kernel_rfl
theorem Td : Fp zA0 4 false = true := by kernel_rfl
theorem Hg : Fp zA0 44 false = true := by kernel_rfl
theorem A0 : Fp zA0 46 true = true := by kernel_rfl
theorem ak : Fp zA0 5 false = true := by kernel_rfl
theorem KE : Fp zA0 66 true = true := by kernel_rfl
theorem Jl : Fp zA0 67 false = true := by kernel_rfl
theorem HT : Fp zA0 69 true = true := by kernel_rfl
theorem Od : Fp zA0 70 false = true := by kernel_rfl
theorem Kc : Fp zA0 81 false = true := by kernel_rfl
theorem IJ : Fp zA0 84 true = true := by kernel_rfl
theorem cJ : Fp zA0 86 true = true := by kernel_rfl
theorem ab : Fp zA0 99 false = true := by kernel_rfl
theorem aY : Q3 zA0 22 = true := by kernel_rfl
theorem Lt : F0 zA0 3 8 = true := by kernel_rfl
theorem Yb : F0 zA0 4 1 = true := by kernel_rfl
theorem NT : F0 zA0 46 72 = true := by kernel_rfl
theorem bp : F0 zA0 5 1 = true := by kernel_rfl
theorem RC : F0 zA0 66 24 = true := by kernel_rfl
theorem YM : F0 zA0 69 80 = true := by kernel_rfl
theorem YF : F0 zA0 70 24 = true := by kernel_rfl
theorem R9 : F0 zA0 81 1 = true := by kernel_rfl
theorem SO : F0 zA0 84 24 = true := by kernel_rfl
theorem YR : F0 zA0 86 120 = true := by kernel_rfl
theorem Vv : CX zA0 101 0 0 = true := by kernel_rfl
theorem W2 : CX zA0 101 1 1 = true := by kernel_rfl
theorem V5 : CX zA0 101 2 2 = true := by kernel_rfl
theorem VS : CX zA0 101 3 3 = true := by kernel_rfl
theorem WL : CX zA0 101 4 4 = true := by kernel_rfl
theorem VE : CX zA0 101 5 5 = true := by kernel_rfl
theorem Q9 : CX zA0 25 0 0 = true := by kernel_rfl
theorem XJ : CX zA0 25 1 1 = true := by kernel_rfl
theorem Yl : CX zA0 25 2 2 = true := by kernel_rfl
theorem Q4 : CX zA0 25 3 3 = true := by kernel_rfl
theorem Bv : CX zA0 29 0 0 = true := by kernel_rfl
theorem GT : CX zA0 29 1 1 = true := by kernel_rfl
theorem HO : CX zA0 29 2 2 = true := by kernel_rfl
theorem BU : CX zA0 29 3 3 = true := by kernel_rfl
theorem CE : CX zA0 46 0 0 = true := by kernel_rfl
theorem Br : CX zA0 46 1 1 = true := by kernel_rfl
theorem CI : CX zA0 46 2 2 = true := by kernel_rfl
theorem Kr : CX zA0 66 0 0 = true := by kernel_rfl
theorem Lo : CX zA0 66 1 1 = true := by kernel_rfl
theorem Mo : CX zA0 66 2 2 = true := by kernel_rfl
theorem F8 : CX zA0 69 0 0 = true := by kernel_rfl
theorem Dk : CX zA0 69 1 1 = true := by kernel_rfl
theorem Ic : CX zA0 69 2 2 = true := by kernel_rfl
theorem IH : CX zA0 69 3 3 = true := by kernel_rfl
theorem HQ : CX zA0 69 4 4 = true := by kernel_rfl
theorem GI : CX zA0 69 5 5 = true := by kernel_rfl
theorem F4 : CX zA0 84 0 0 = true := by kernel_rfl
theorem Fm : CX zA0 84 1 1 = true := by kernel_rfl
theorem Hi : CX zA0 84 2 2 = true := by kernel_rfl
theorem XD : CX zA0 86 0 0 = true := by kernel_rfl
theorem Ud : CX zA0 86 2 6 = true := by kernel_rfl
theorem cu : AG zA0 10 = true := by kernel_rfl
theorem au : AG zA0 100 = true := by kernel_rfl
theorem T2 : AG zA0 102 = true := by kernel_rfl
theorem Z3 : AG zA0 103 = true := by kernel_rfl
theorem YV : AG zA0 106 = true := by kernel_rfl
theorem VZ : AG zA0 107 = true := by kernel_rfl
theorem Wj : AG zA0 108 = true := by kernel_rfl
theorem YK : AG zA0 109 = true := by kernel_rfl
theorem bE : AG zA0 11 = true := by kernel_rfl
theorem YY : AG zA0 110 = true := by kernel_rfl
theorem aT : AG zA0 111 = true := by kernel_rfl
theorem ay : AG zA0 112 = true := by kernel_rfl
theorem aR : AG zA0 113 = true := by kernel_rfl
theorem T9 : AG zA0 114 = true := by kernel_rfl
theorem YN : AG zA0 115 = true := by kernel_rfl
theorem aF : AG zA0 119 = true := by kernel_rfl
theorem aN : AG zA0 12 = true := by kernel_rfl
theorem aH : AG zA0 120 = true := by kernel_rfl
theorem bk : AG zA0 121 = true := by kernel_rfl
theorem ag : AG zA0 122 = true := by kernel_rfl
theorem ad : AG zA0 123 = true := by kernel_rfl
theorem aS : AG zA0 124 = true := by kernel_rfl
theorem bC : AG zA0 125 = true := by kernel_rfl
theorem bJ : AG zA0 126 = true := by kernel_rfl
theorem bu : AG zA0 127 = true := by kernel_rfl
theorem aj : AG zA0 129 = true := by kernel_rfl
theorem cN : AG zA0 13 = true := by kernel_rfl
theorem al : AG zA0 130 = true := by kernel_rfl
theorem YP : AG zA0 131 = true := by kernel_rfl
theorem cK : AG zA0 14 = true := by kernel_rfl
theorem ZZ : AG zA0 142 = true := by kernel_rfl
theorem bn : AG zA0 143 = true := by kernel_rfl
theorem Zf : AG zA0 15 = true := by kernel_rfl
theorem aq : AG zA0 153 = true := by kernel_rfl
theorem bm : AG zA0 154 = true := by kernel_rfl
theorem YD : AG zA0 155 = true := by kernel_rfl
theorem YS : AG zA0 156 = true := by kernel_rfl
theorem Z6 : AG zA0 157 = true := by kernel_rfl
theorem aI : AG zA0 158 = true := by kernel_rfl
theorem aA : AG zA0 159 = true := by kernel_rfl
theorem ck : AG zA0 16 = true := by kernel_rfl
theorem bH : AG zA0 160 = true := by kernel_rfl
theorem bG : AG zA0 169 = true := by kernel_rfl
theorem ax : AG zA0 170 = true := by kernel_rfl
theorem cb : AG zA0 18 = true := by kernel_rfl
theorem aU : AG zA0 21 = true := by kernel_rfl
theorem aQ : AG zA0 22 = true := by kernel_rfl
theorem bX : AG zA0 24 = true := by kernel_rfl
theorem cI : AG zA0 25 = true := by kernel_rfl
theorem ZB : AG zA0 27 = true := by kernel_rfl
theorem ce : AG zA0 28 = true := by kernel_rfl
theorem bg : AG zA0 29 = true := by kernel_rfl
theorem aK : AG zA0 30 = true := by kernel_rfl
theorem cR : AG zA0 31 = true := by kernel_rfl
theorem Xw : AG zA0 35 = true := by kernel_rfl
theorem TM : AG zA0 39 = true := by kernel_rfl
theorem bV : AG zA0 40 = true := by kernel_rfl
theorem cq : AG zA0 41 = true := by kernel_rfl
theorem bv : AG zA0 42 = true := by kernel_rfl
theorem cj : AG zA0 43 = true := by kernel_rfl
theorem aV : AG zA0 44 = true := by kernel_rfl
theorem WT : AG zA0 45 = true := by kernel_rfl
theorem ZQ : AG zA0 46 = true := by kernel_rfl
theorem aP : AG zA0 47 = true := by kernel_rfl
theorem Za : AG zA0 48 = true := by kernel_rfl
theorem Zs : AG zA0 49 = true := by kernel_rfl
theorem ba : AG zA0 50 = true := by kernel_rfl
theorem Rg : AG zA0 51 = true := by kernel_rfl
theorem aZ : AG zA0 52 = true := by kernel_rfl
theorem WE : AG zA0 54 = true := by kernel_rfl
theorem aO : AG zA0 55 = true := by kernel_rfl
theorem XB : AG zA0 58 = true := by kernel_rfl
theorem ca : AG zA0 59 = true := by kernel_rfl
theorem bU : AG zA0 60 = true := by kernel_rfl
theorem bh : AG zA0 61 = true := by kernel_rfl
theorem XN : AG zA0 62 = true := by kernel_rfl
theorem cQ : AG zA0 63 = true := by kernel_rfl
theorem WR : AG zA0 65 = true := by kernel_rfl
theorem TT : AG zA0 66 = true := by kernel_rfl
theorem Zy : AG zA0 67 = true := by kernel_rfl
theorem ZC : AG zA0 68 = true := by kernel_rfl
theorem cD : AG zA0 69 = true := by kernel_rfl
theorem cE : AG zA0 70 = true := by kernel_rfl
theorem ae : AG zA0 71 = true := by kernel_rfl
theorem cH : AG zA0 72 = true := by kernel_rfl
theorem Z5 : AG zA0 73 = true := by kernel_rfl
theorem cC : AG zA0 74 = true := by kernel_rfl
theorem bY : AG zA0 75 = true := by kernel_rfl
theorem cP : AG zA0 76 = true := by kernel_rfl
theorem bT : AG zA0 78 = true := by kernel_rfl
theorem bd : AG zA0 82 = true := by kernel_rfl
theorem cg : AG zA0 83 = true := by kernel_rfl
theorem Zt : AG zA0 84 = true := by kernel_rfl
theorem cz : AG zA0 85 = true := by kernel_rfl
theorem cn : AG zA0 86 = true := by kernel_rfl
theorem cM : AG zA0 87 = true := by kernel_rfl
theorem cL : AG zA0 88 = true := by kernel_rfl
theorem bW : AG zA0 89 = true := by kernel_rfl
theorem cd : AG zA0 90 = true := by kernel_rfl
theorem ZK : AG zA0 91 = true := by kernel_rfl
theorem bz : AG zA0 92 = true := by kernel_rfl
theorem cS : AG zA0 93 = true := by kernel_rfl
theorem cc : AG zA0 94 = true := by kernel_rfl
theorem bQ : AG zA0 95 = true := by kernel_rfl
theorem bR : AG zA0 96 = true := by kernel_rfl
theorem aG : AG zA0 97 = true := by kernel_rfl
theorem cp : AG zA0 98 = true := by kernel_rfl
theorem cr : AG zA0 99 = true := by kernel_rfl
theorem S7 : PJ zA0 152 .u64 = true := by kernel_rfl
theorem Ua : PJ zA0 179 .u32 = true := by kernel_rfl
theorem Yw : PJ zA0 181 .u64 = true := by kernel_rfl
theorem Yh : PJ zA0 3 .i64 = true := by kernel_rfl
theorem cV : PJ zA0 5 .u8 = true := by kernel_rfl
theorem Zl : Tryz.prog.underlying 9 = some .string := by kernel_rfl
theorem Rd : Tryz.prog.underlying 134 = some (.map 9 4) := by kernel_rfl
theorem W1 : IL zA0 29 = some [(0, 1), (1, 1), (2, 1), (3, 1)] := by kernel_rfl
theorem Hn : IL zA0 46 = some [(0, 1), (1, 1), (2, 1)] := by kernel_rfl
theorem Ty : IL zA0 66 = some [(0, 1), (1, 1), (2, 1)] := by kernel_rfl
theorem Zo : IL zA0 69 = some [(0, 1), (1, 1), (2, 1), (3, 1), (4, 1), (5, 1)] := by kernel_rfl
theorem Wd : IL zA0 84 = some [(0, 1), (1, 1), (2, 1)] := by kernel_rfl
theorem bZ : IL zA0 86 = some [(0, 3), (3, 3), (6, 3)] := by kernel_rfl
theorem T7 : U2 zA0 66 = some [0, 0, 0] := by kernel_rfl
theorem ap : U2 zA0 84 = some [0, 0, 0] := by kernel_rfl
theorem K4 : sliceB zA0 22 5 = true := by kernel_rfl
theorem Wr : sliceB zA0 23 101 = true := by kernel_rfl
theorem Ax : sliceB zA0 26 3 = true := by kernel_rfl
theorem Dc : sliceB zA0 27 69 = true := by kernel_rfl
theorem BB : sliceB zA0 30 46 = true := by kernel_rfl
theorem Dj : sliceB zA0 44 81 = true := by kernel_rfl
theorem LG : sliceB zA0 48 86 = true := by kernel_rfl
theorem Ed : sliceB zA0 55 66 = true := by kernel_rfl
theorem Fo : sliceB zA0 67 70 = true := by kernel_rfl
theorem FZ : sliceB zA0 70 4 = true := by kernel_rfl
theorem Fj : sliceB zA0 94 84 = true := by kernel_rfl
theorem Ui : (Tryz.prog.underlying 152).isSome = true := by kernel_rfl
theorem T8 : (Tryz.prog.underlying 179).isSome = true := by kernel_rfl
theorem YW : (Tryz.prog.underlying 181).isSome = true := by kernel_rfl
theorem bj : (Tryz.prog.underlying 3).isSome = true := by kernel_rfl
theorem ZU : (Tryz.prog.underlying 5).isSome = true := by kernel_rfl
theorem cv : (Tryz.prog.underlying 81).isSome = true := by kernel_rfl
theorem Z2 : PX zA0 9 = true := by kernel_rfl
theorem Vr : HK zA0 101 6 = true := by kernel_rfl
theorem az : HK zA0 25 4 = true := by kernel_rfl
theorem W6 : HK zA0 26 1 = true := by kernel_rfl
theorem Z4 : HK zA0 27 1 = true := by kernel_rfl
theorem Cx : HK zA0 29 4 = true := by kernel_rfl
theorem Da : HK zA0 3 1 = true := by kernel_rfl
theorem PQ : HK zA0 4 1 = true := by kernel_rfl
theorem cy : HK zA0 44 1 = true := by kernel_rfl
theorem AF : HK zA0 46 3 = true := by kernel_rfl
theorem ZY : HK zA0 5 1 = true := by kernel_rfl
theorem E2 : HK zA0 66 3 = true := by kernel_rfl
theorem Z0 : HK zA0 67 1 = true := by kernel_rfl
theorem DR : HK zA0 69 6 = true := by kernel_rfl
theorem La : HK zA0 70 1 = true := by kernel_rfl
theorem F3 : HK zA0 81 1 = true := by kernel_rfl
theorem E8 : HK zA0 84 3 = true := by kernel_rfl
theorem SU : HK zA0 86 9 = true := by kernel_rfl
theorem bi : EE zA0 101 = some (.agg #[.int .u8 0, .int .u8 0, .int .u8 0, .bool false, .int .u16 0, .int .u16 0]) := by kernel_rfl
theorem Ms : EE zA0 29 = some (.agg #[.slice none 0 0, .slice none 0 0, .slice none 0 0, .slice none 0 0]) := by kernel_rfl
theorem JZ : EE zA0 3 = some (.int .i64 0) := by kernel_rfl
theorem Wc : EE zA0 4 = some (.bool false) := by kernel_rfl
theorem Ci : EE zA0 46 = some (.agg #[.slice none 0 0, .slice none 0 0, .slice none 0 0]) := by kernel_rfl
theorem bN : EE zA0 5 = some (.int .u8 0) := by kernel_rfl
theorem IP : EE zA0 66 = some (.agg #[.int .i64 0, .int .i64 0, .int .i64 0]) := by kernel_rfl
theorem Kb : EE zA0 69 = some (.agg #[.int .i64 0, .int .i64 0, .int .i64 0, .bool false, .slice none 0 0, .slice none 0 0]) := by kernel_rfl
theorem Vy : EE zA0 70 = some (.slice none 0 0) := by kernel_rfl
theorem OY : EE zA0 81 = some (.int .u8 0) := by kernel_rfl
theorem JE : EE zA0 84 = some (.agg #[.int .i64 0, .int .i64 0, .int .i64 0]) := by kernel_rfl
theorem VX : EE zA0 86 = some (.agg #[.int .i64 0, .int .i64 0, .int .i64 0, .slice none 0 0, .slice none 0 0, .slice none 0 0, .int .i64 0, .int .i64 0, .int .i64 0]) := by kernel_rfl
set_option maxRecDepth 10000
theorem I0 (N : Nat) (p0 : List Int) (p1 : Int) (r : Int) (h : Em N p0 p1 = some r) : Av zA0 50 [pD (.sl (p0.map C8)), iD p1] [] (iD r) := by
 unfold Em at h
 refine cw (n := 14) (rs := [.tmp 4]) Tryz.func50 fun w0 S0 => ?_
 refine wq rfl (qa rfl (Ac (wp rfl (qw 2 rfl (AJ K4 rfl (AT rfl (Ac ?_)))))))
 refine Bd h (fun h => ?_) fun h => ?_
 ·refine wq rfl (qw 2 rfl ?_)
  refine BT h fun v2 a2 b2 h => qi K4 ZY a2 (Ae b2) rfl (qk ak rfl (Jk ZU Yh rfl (qe rfl ?_)))
  obtain rfl := sj h
  refine Af (sm [] [(4, iD ((wI .i64 v2)))] [] rfl rfl) (Au ?_)
  exact ⟨⟨[_], tm, rfl⟩, tv⟩
 ·refine Al (wq rfl (qe rfl ?_))
  obtain rfl := sj h
  refine Af (sm [] [(4, iD 0)] [] rfl rfl) (Au ?_)
  exact ⟨⟨[_], tm, rfl⟩, tv⟩
theorem Cu (N : Nat) (p0 : An) (r : Bool) (h : A5 N p0 = some r) : Av zA0 51 [.e (.agg (Be p0))] [] (bD r) := by
 unfold A5 at h
 refine cw (n := 11) (rs := [.tmp 2]) Tryz.func51 fun w0 S0 => ?_
 refine wq rfl (qb rfl (qe rfl ?_))
 refine AR h (fun v1 => mk [(2, bD v1)] []) (fun j1 h => ?_) (fun v1 h => ?_)
 ·refine Ai Az rfl (qf F8 rfl (ql BW rfl (BX rfl (qm rfl ?_))))
  refine Ec 6 h rfl (fun h => ?_) fun h => ?_
  ·refine qw 3 rfl (qp rfl (qe rfl ?_))
   exact sn [] h
  ·refine qf F8 rfl (ql BW rfl (BX rfl (qp rfl (qe rfl ?_))))
   exact sn [] h
 ·obtain rfl := sj h
  refine Af (sm [] [(2, bD v1)] [] rfl rfl) (Au ?_)
  exact ⟨⟨[_], tm, rfl⟩, tv⟩
theorem IV (N : Nat) (p0 : Int) (p1 : Int) (p2 : Int) (p3 : Bool) (r : (List (List Bool))) (h : En N p0 p1 p2 p3 = some r) : Av zA0 52 [iD p0, iD p1, pD (.val (.int .u16 p2)), bD p3] [(1, r.map (HB eB))] (oD (.own 0)) := by
 unfold En at h
 refine cw (n := 47) (rs := [.tmp 8]) Tryz.func52 fun w0 S0 => ?_
 refine wq rfl (qa rfl (Ac (wq rfl (qa rfl (Ac (wp rfl (qe rfl ?_)))))))
 refine AH (L := Cw N p0 p1 p2 p3) h (fun v1 => mk [(0, iD p0), (1, iD p1), (2, pD (.val (.int .u16 p2))), (3, bD p3), (9, oD (.own 2001)), (10, iD v1.2)] [(2001, .vec 1 (v1.1.map (HB eB)))]) (fun v2 => mk [(9, oD (.own 2002))] [(2002, .vec 1 (v2.map (HB eB)))]) (fun _ _ => rfl) ((Ba 9 2010 1 rfl rfl rfl).trans (sm [(2001, 2010)] _ _ rfl rfl)) (fun j1 n1 v1 h => ?_) (fun v2 s h hs => ?_)
 ·unfold Cw at h
  refine wp rfl (qw 2 rfl (AT rfl (Ac ?_)))
  refine Bd h (fun h => ?_) fun h => ?_
  ·refine Al (AN (AL (wq rfl (qa rfl (Ac (wp rfl (qe rfl ?_)))))))
   refine AH (L := Ct N p1 p2 p3 v1) h (fun v4 => mk [(0, iD p0), (1, iD p1), (2, pD (.val (.int .u16 p2))), (3, bD p3), (9, oD (.own 2003)), (10, iD v1.2), (11, oD (.own 2004)), (12, iD v4.2)] [(2003, .vec 1 (v1.1.map (HB eB))), (2004, .vec 1 (v4.1.map eB))]) (fun v5 => mk [(0, iD p0), (1, iD p1), (2, pD (.val (.int .u16 p2))), (3, bD p3), (9, oD (.own 2005)), (10, iD v1.2), (11, oD (.own 2006))] [(2005, .vec 1 (v1.1.map (HB eB))), (2006, .vec 1 (v5.map eB))]) (fun _ _ => rfl) ((Ba 11 2009 1 rfl rfl rfl).trans (sm [(2003, 2001), (2004, 2009)] _ _ rfl rfl)) (fun j4 n4 v4 h => ?_) (fun v5 s h hs => ?_)
   ·unfold Ct at h
    refine wp rfl (qw 2 rfl (AT rfl (Ac ?_)))
    refine Bd h (fun h => ?_) fun h => ?_
    ·refine Al ?_
     refine AR h (fun v7 => mk [(0, iD p0), (1, iD p1), (2, pD (.val (.int .u16 p2))), (3, bD p3), (9, oD (.own 2007)), (10, iD v1.2), (11, oD (.own 2008)), (12, iD v4.2)] [(2007, .vec 1 (v1.1.map (HB eB))), (2008, .vec 1 (v7.map eB))]) (fun j7 h => ?_) (fun v7 h => ?_)
     ·refine AL (Ai Az rfl (qw 3 rfl ?_))
      refine Ec 25 h rfl (fun h => ?_) fun h => ?_
      ·refine qw 2 rfl (BX rfl (qp rfl (qm rfl ?_)))
       refine Ec 30 h rfl (fun h => ?_) fun h => ?_
       ·refine qw 8 rfl (qp rfl (DI FZ PQ Wc rfl ?_))
        refine Gf h fun c10 h => DH (f := eB) FZ FZ PQ Yb Wc c10 rfl (qe rfl ?_)
        exact sn [(2007, 2003), (2008, 41)] h
       ·refine qw 2 rfl (NJ rfl (qm rfl (AZ rfl ?_)))
        refine Gf h fun c11 h => Jv rfl c11 (MS rfl (by decide) (BX rfl (qp rfl (DI FZ PQ Wc rfl ?_))))
        refine Gf h fun c12 h => DH (f := eB) FZ FZ PQ Yb Wc c12 rfl (qe rfl ?_)
        exact sn [(2007, 2003), (2008, 41)] h
      ·refine qw 3 rfl (qp rfl (qw 3 rfl (NJ rfl (qm rfl (AZ rfl ?_)))))
       refine Gf h fun c13 h => Jv rfl c13 (MS rfl (by decide) (BX rfl (qp rfl (DI FZ PQ Wc rfl ?_))))
       refine Gf h fun c14 h => DH (f := eB) FZ FZ PQ Yb Wc c14 rfl (qe rfl ?_)
       exact sn [(2007, 2003), (2008, 41)] h
     ·refine Ai Az rfl (qm rfl (AZ rfl (qe rfl ?_)))
      exact sn [(2003, 2007), (2004, 2008)] h
    ·refine AS ?_
     exact sn [(2005, 2003), (2006, 2004)] h
   ·refine Af hs (Ai Az rfl (qw 2 rfl (Dh (AW 2006 _ _ rfl rfl) (DI Fo La Vy rfl ?_))))
    refine Gf h fun c15 h => DH (f := (HB eB)) Fo Fo La YF Vy c15 rfl (qa rfl (Ac (Ai Az rfl (qm rfl (AZ rfl (qe rfl ?_))))))
    exact sn [(2001, 45)] h
  ·refine AS ?_
   exact sn [(2002, 2001)] h
 ·refine Af hs (wq rfl (qm rfl (qe rfl ?_)))
  obtain rfl := sj h
  refine Af (sm [(1000, 2002)] [(8, oD (.own 1000))] [(1000, .vec 1 (v2.map (HB eB)))] rfl rfl) (Au ?_)
  exact ⟨⟨[_], tm, rfl⟩, ⟨rfl, tv⟩⟩
theorem Nn (N : Nat) (p0 : BJ) (r : Aa × Bool) (h : Fy N p0 = some r) : Av zA0 16 [.e (.agg (CO p0))] [(1, r.1.fb.map Ap), (1, r.1.fh.map Ap), (1, r.1.fi.map Ap), (6, r.1.fc.map AQ)] (.tup [.agg [.own 0, .own 1, .own 2, .own 3], .one (.pure (.val (.bool r.2)))]) := by
 unfold Fy at h
 refine cw (n := 152) (rs := [.cell 2 29, .tmp 3]) Tryz.func16 fun w0 S0 => ?_
 refine wq rfl (qb rfl (qz Ms rfl (qa rfl (Ac (AN ?_)))))
 refine AR h (fun v1 => mk [(1, oD (.ptr 1 0)), (2, oD (.ptr 2 0)), (19, bD v1)] [(1, .box (CO p0)), (2, .box [.pure (.nil0), .pure (.nil0), .pure (.nil0), .pure (.nil0)])]) (fun j1 h => ?_) (fun v1 h => ?_)
 ·refine Ai Az rfl (qf Q9 rfl (ql V2 rfl (AJ K4 rfl (Gt rfl (qm rfl ?_)))))
  refine Ec 14 h rfl (fun h => ?_) fun h => ?_
  ·refine qw 4 rfl (qp rfl (Ac ?_))
   exact sn [] h
  ·refine qf Q4 rfl (ql ZM rfl (AJ Wr rfl (Gt rfl (qp rfl (Ac ?_)))))
   exact sn [] h
 ·refine Bd h (fun h => ?_) fun h => ?_
  ·refine wq rfl (A9 Ms W1 rfl (qs Cx rfl (qe rfl ?_)))
   obtain rfl := sj h
   refine Af ((As 2 0 2001 1 _ rfl rfl rfl rfl).trans ((As 2 1 2002 1 _ rfl rfl rfl rfl).trans ((As 2 2 2003 1 _ rfl rfl rfl rfl).trans ((As 2 3 2004 6 _ rfl rfl rfl rfl).trans (sm [(1000, 2001), (1001, 2002), (1002, 2003), (1003, 2004)] [(2, oD (.ptr 2 0)), (3, bD false)] [(2, .box [.own 1000, .own 1001, .own 1002, .own 1003]), (1000, .vec 1 ((([] : List Int)).map Ap)), (1001, .vec 1 ((([] : List Int)).map Ap)), (1002, .vec 1 ((([] : List Int)).map Ap)), (1003, .vec 6 ((([] : List An)).map AQ))] rfl rfl))))) (Au ?_)
   exact ⟨⟨[_, _], ⟨.cellN _ _ _ _ _ _ _ rfl rfl C0 Cx rfl rfl (ID rfl), tm⟩, rfl⟩, ⟨rfl, rfl, rfl, rfl, tv⟩⟩
  ·refine Al (wq rfl (qz Ms rfl (Ac (wp rfl (qe rfl ?_)))))
   refine AH (L := CS N p0) h (fun v4 => mk [(1, oD (.ptr 1 0)), (2, oD (.ptr 2 0)), (4, oD (.ptr 4 0)), (5, iD v4.2.2.2)] [(1, .box (CO p0)), (2, .box [.pure (.nil0), .pure (.nil0), .pure (.nil0), .pure (.nil0)]), (4, .box [.own 2005, .own 2006, .own 2007, .pure (.nil0)]), (2005, .vec 1 (v4.1.map Ap)), (2006, .vec 1 (v4.2.1.map Ap)), (2007, .vec 1 (v4.2.2.1.map Ap))]) (fun v5 => mk [(1, oD (.ptr 1 0)), (2, oD (.ptr 2 0)), (4, oD (.ptr 4 0))] [(1, .box (CO p0)), (2, .box [.pure (.nil0), .pure (.nil0), .pure (.nil0), .pure (.nil0)]), (4, .box [.own 2008, .own 2009, .own 2010, .pure (.nil0)]), (2008, .vec 1 (v5.1.map Ap)), (2009, .vec 1 (v5.2.1.map Ap)), (2010, .vec 1 (v5.2.2.map Ap))]) (fun _ _ => rfl) ((As 4 0 2011 1 _ rfl rfl rfl rfl).trans ((As 4 1 2012 1 _ rfl rfl rfl rfl).trans ((As 4 2 2013 1 _ rfl rfl rfl rfl).trans (sm [(2005, 2011), (2006, 2012), (2007, 2013)] _ _ rfl rfl)))) (fun j4 n4 v4 h => ?_) (fun v5 s h hs => ?_)
   ·unfold CS at h
    refine wp rfl (qm rfl (qf Q9 rfl (ql V2 rfl (AJ K4 rfl (AT rfl (Ac ?_))))))
    refine Bd h (fun h => ?_) fun h => ?_
    ·refine Al (AN (AL (wq rfl (qf Q9 rfl (ql V2 rfl (qm rfl ?_))))))
     refine BT h fun v7 a7 b7 h => qi K4 ZY a7 (Ae b7) rfl (qk ak rfl (MS rfl (by decide) (Jk ZU Yh rfl (AZ rfl (qa rfl (Ac (wq rfl (qf Bv rfl (ql A1 rfl (qm rfl (DI Ax Da JZ rfl ?_)))))))))))
     refine Gf h fun c8 h => DH (f := Ap) Ax Ax Da Lt JZ c8 rfl (qf Bv rfl (qs W6 rfl (Ac (wq rfl (qf GT rfl (ql A1 rfl (qf XJ rfl (ql V2 rfl (qm rfl ?_)))))))))
     refine BY h fun v9 a9 h => Ay [] (I0 N p0.fh v4.2.2.2 v9 a9) ba rfl (qm rfl ?_)
     refine Gf h fun c10 h => MS rfl c10 (DI Ax Da JZ rfl ?_)
     refine Gf h fun c11 h => DH (f := Ap) Ax Ax Da Lt JZ c11 rfl (qf GT rfl (qs W6 rfl (AK (by kernel_rfl) (Ai Az rfl (qf HO rfl (ql A1 rfl (qf Yl rfl (ql V2 rfl (qm rfl ?_)))))))))
     refine BY h fun v12 a12 h => Ay [] (I0 N p0.fi v4.2.2.2 v12 a12) ba rfl (qm rfl ?_)
     refine Gf h fun c13 h => MS rfl c13 (DI Ax Da JZ rfl ?_)
     refine Gf h fun c14 h => DH (f := Ap) Ax Ax Da Lt JZ c14 rfl (qf HO rfl (qs W6 rfl (AK (by kernel_rfl) (Ai Az rfl (qm rfl (AZ rfl (qe rfl ?_)))))))
     exact sn [(2005, 40), (2006, 51), (2007, 62)] h
    ·refine AS ?_
     exact sn [(2008, 2005), (2009, 2006), (2010, 2007)] h
   ·refine Af hs (wp rfl (qe rfl ?_))
    refine AH (L := BE N p0 v5) h (fun v15 => mk [(1, oD (.ptr 1 0)), (2, oD (.ptr 2 0)), (4, oD (.ptr 4 0)), (7, iD v15.2)] [(1, .box (CO p0)), (2, .box [.pure (.nil0), .pure (.nil0), .pure (.nil0), .pure (.nil0)]), (4, .box [.own 2014, .own 2015, .own 2016, .own 2017]), (2014, .vec 1 (v5.1.map Ap)), (2015, .vec 1 (v5.2.1.map Ap)), (2016, .vec 1 (v5.2.2.map Ap)), (2017, .vec 6 (v15.1.map AQ))]) (fun v16 => mk [(2, oD (.ptr 2 0)), (4, oD (.ptr 4 0))] [(2, .box [.pure (.nil0), .pure (.nil0), .pure (.nil0), .pure (.nil0)]), (4, .box [.own 2018, .own 2019, .own 2020, .own 2021]), (2018, .vec 1 (v5.1.map Ap)), (2019, .vec 1 (v5.2.1.map Ap)), (2020, .vec 1 (v5.2.2.map Ap)), (2021, .vec 6 (v16.map AQ))]) (fun _ _ => rfl) ((As 4 3 2039 6 _ rfl rfl rfl rfl).trans (sm [(2014, 2008), (2015, 2009), (2016, 2010), (2017, 2039)] _ _ rfl rfl)) (fun j15 n15 v15 h => ?_) (fun v16 s h hs => ?_)
    ·unfold BE at h
     refine AN ?_
     refine AR h (fun v17 => mk [(1, oD (.ptr 1 0)), (2, oD (.ptr 2 0)), (4, oD (.ptr 4 0)), (7, iD v15.2), (74, bD v17)] [(1, .box (CO p0)), (2, .box [.pure (.nil0), .pure (.nil0), .pure (.nil0), .pure (.nil0)]), (4, .box [.own 2022, .own 2023, .own 2024, .own 2025]), (2022, .vec 1 (v5.1.map Ap)), (2023, .vec 1 (v5.2.1.map Ap)), (2024, .vec 1 (v5.2.2.map Ap)), (2025, .vec 6 (v15.1.map AQ))]) (fun j17 h => ?_) (fun v17 h => ?_)
     ·refine Ai Az rfl (qm rfl (qf Q4 rfl (ql ZM rfl (AJ Wr rfl (AT rfl (qm rfl ?_))))))
      refine Ec 69 h rfl (fun h => ?_) fun h => ?_
      ·refine qf Bv rfl (ql A1 rfl (DQ Ax rfl (Gt rfl (qp rfl (Ac ?_)))))
       exact sn [(2022, 2014), (2023, 2015), (2024, 2016), (2025, 2017)] h
      ·refine qw 4 rfl (qp rfl (Ac ?_))
       exact sn [(2022, 2014), (2023, 2015), (2024, 2016), (2025, 2017)] h
     ·refine Bd h (fun h => ?_) fun h => ?_
      ·refine Al (AN (AL (wq rfl (qf Q4 rfl (ql ZM rfl (qm rfl ?_))))))
       refine BT h fun v20 a20 b20 h => qi Wr Vr a20 (Ae b20) rfl (qK bb Vr rfl (qz bi rfl (qs Vr rfl (Ac (wq rfl (qf Vv rfl (ql ak rfl (MS rfl (by decide) (Jk ZU Yh rfl (AZ rfl (qf W2 rfl (ql ak rfl (Jk ZU Yh rfl (qf Bv rfl (ql A1 rfl (DQ Ax rfl ?_))))))))))))))))
       refine Gf h fun c21 h => MS rfl c21 (qf V5 rfl (ql ak rfl (Jk ZU Yh rfl (qf Bv rfl (ql A1 rfl (DQ Ax rfl ?_))))))
       refine Gf h fun c22 h => MS rfl c22 (A9 Kb Zo rfl (qz Kb rfl (qs DR rfl (AK (by kernel_rfl) ?_))))
       refine AR h (fun v23 => mk [(1, oD (.ptr 1 0)), (2, oD (.ptr 2 0)), (4, oD (.ptr 4 0)), (7, iD v15.2), (8, oD (.ptr 8 0)), (9, oD (.ptr 9 0))] [(1, .box (CO p0)), (2, .box [.pure (.nil0), .pure (.nil0), .pure (.nil0), .pure (.nil0)]), (4, .box [.own 2026, .own 2027, .own 2028, .own 2029]), (8, .box (Nt v20)), (9, .box [iC ((wI .i64 (1 + (wI .i64 ((zB5 v20.ff 4)))))), iC ((zB5 ((wI .i64 v20.fg)) ((v5.1.length : Int)))), iC ((zB5 ((wI .i64 v20.fm)) ((v5.1.length : Int)))), .pure (.val (.bool v23)), .pure (.nil0), .pure (.nil0)]), (2026, .vec 1 (v5.1.map Ap)), (2027, .vec 1 (v5.2.1.map Ap)), (2028, .vec 1 (v5.2.2.map Ap)), (2029, .vec 6 (v15.1.map AQ))]) (fun j23 h => ?_) (fun v23 h => ?_)
       ·refine Ai Az rfl (qf VS rfl (ql Td rfl (qm rfl ?_)))
        refine Ec 104 h rfl (fun h => ?_) fun h => ?_
        ·refine qL HT DR rfl ?_
         refine BY h fun v25 a25 h => Ay [] (Cu N ((An.mk ((wI .i64 (1 + (wI .i64 ((zB5 v20.ff 4)))))) ((zB5 ((wI .i64 v20.fg)) ((v5.1.length : Int)))) ((zB5 ((wI .i64 v20.fm)) ((v5.1.length : Int)))) false (([] : List (List Bool))) (([] : List (List Bool))))) v25 a25) Rg rfl (CF rfl (qp rfl (qf IH rfl (qs PQ rfl (Ac ?_)))))
         exact sn [(2026, 2022), (2027, 2023), (2028, 2024), (2029, 2025)] h
        ·refine qw 3 rfl (qp rfl (qf IH rfl (qs PQ rfl (Ac ?_))))
         exact sn [(2026, 2022), (2027, 2023), (2028, 2024), (2029, 2025)] h
       ·refine wq rfl (qf Bv rfl (ql A1 rfl (qf Dk rfl (ql BW rfl ?_))))
        refine BT h fun v26 a26 b26 h => qI Ax Da a26 (Ae b26) rfl (qj BW (Ae b26) rfl (qf Bv rfl (ql A1 rfl (qf Ic rfl (ql BW rfl ?_)))))
        refine BT h fun v27 a27 b27 h => qI Ax Da a27 (Ae b27) rfl (qj BW (Ae b27) rfl (qf WL rfl (ql ab rfl ?_)))
        refine BY h fun v28 a28 h => Ay [2030] (IV N v26 v27 v20.fA false v28 a28) aZ rfl (qf HQ rfl (qs Z0 rfl (AK (by kernel_rfl) ?_)))
        refine AR h (fun v29 => mk [(1, oD (.ptr 1 0)), (2, oD (.ptr 2 0)), (4, oD (.ptr 4 0)), (7, iD v15.2), (9, oD (.ptr 9 0))] [(1, .box (CO p0)), (2, .box [.pure (.nil0), .pure (.nil0), .pure (.nil0), .pure (.nil0)]), (4, .box [.own 2031, .own 2032, .own 2033, .own 2034]), (9, .box [iC ((wI .i64 (1 + (wI .i64 ((zB5 v20.ff 4)))))), iC ((zB5 ((wI .i64 v20.fg)) ((v5.1.length : Int)))), iC ((zB5 ((wI .i64 v20.fm)) ((v5.1.length : Int)))), .pure (.val (.bool v23)), .own 2035, .own 2036]), (2031, .vec 1 (v5.1.map Ap)), (2032, .vec 1 (v5.2.1.map Ap)), (2033, .vec 1 (v5.2.2.map Ap)), (2034, .vec 6 (v15.1.map AQ)), (2035, .vec 1 (v28.map (HB eB))), (2036, .vec 1 (v29.map (HB eB)))]) (fun j29 h => ?_) (fun v29 h => ?_)
        ·refine wq rfl (qf F8 rfl (ql BW rfl (BX rfl (Ac ?_))))
         refine Bd h (fun h => ?_) fun h => ?_
         ·refine Ai Az rfl (qf Bv rfl (ql A1 rfl (qf Dk rfl (ql BW rfl ?_))))
          refine BT h fun v31 a31 b31 h => qI Ax Da a31 (Ae b31) rfl (qj BW (Ae b31) rfl (qf Bv rfl (ql A1 rfl (qf Dk rfl (ql BW rfl ?_)))))
          refine BT h fun v32 a32 b32 h => qI Ax Da a32 (Ae b32) rfl (qj BW (Ae b32) rfl (qf VE rfl (ql ab rfl ?_)))
          refine BY h fun v33 a33 h => Ay [2037] (IV N v31 v32 v20.fB true v33 a33) aZ rfl (qf GI rfl (qs Z0 rfl (AK (by kernel_rfl) ?_)))
          exact sn [(2031, 2026), (2032, 2027), (2033, 2028), (2034, 2029), (2035, 2030), (2036, 2037)] h
         ·refine Al ?_
          exact SF _ h ((As 9 5 2038 1 _ rfl rfl rfl rfl).trans (sm [(2031, 2026), (2032, 2027), (2033, 2028), (2034, 2029), (2035, 2030), (2036, 2038)] _ _ rfl rfl))
        ·refine Ai Az rfl (qf BU rfl (ql Gi rfl (qL HT DR rfl (Dh (AW 2035 _ _ rfl rfl) (Dh (AW 2036 _ _ rfl rfl) (DI Dc DR Kb rfl ?_))))))
         refine Gf h fun c34 h => DH (f := AQ) Dc Dc DR YM Kb c34 rfl (qf BU rfl (qs Z4 rfl (Ac (Ai Az rfl (qm rfl (AZ rfl (qe rfl ?_)))))))
         exact sn [(2014, 2031), (2015, 2032), (2016, 2033), (2017, 149)] h
      ·refine AS ?_
       exact sn [(2018, 2022), (2019, 2023), (2020, 2024), (2021, 2025)] h
    ·refine Af hs (wq rfl (qL C0 Cx rfl (qs Cx rfl (qe rfl ?_))))
     obtain rfl := sj h
     refine Af (sm [(1000, 2018), (1001, 2019), (1002, 2020), (1003, 2021)] [(2, oD (.ptr 2 0)), (3, bD true)] [(2, .box [.own 1000, .own 1001, .own 1002, .own 1003]), (1000, .vec 1 (v5.1.map Ap)), (1001, .vec 1 (v5.2.1.map Ap)), (1002, .vec 1 (v5.2.2.map Ap)), (1003, .vec 6 (v16.map AQ))] rfl rfl) (Au ?_)
     exact ⟨⟨[_, _], ⟨.cellN _ _ _ _ _ _ _ rfl rfl C0 Cx rfl rfl (ID rfl), tm⟩, rfl⟩, ⟨rfl, rfl, rfl, rfl, tv⟩⟩
theorem Is (N : Nat) (p0 : List (List Bool)) (p1 : Int) (p2 : Int) (r : Bool) (h : DO N p0 p1 p2 = some r) : Av zA0 115 [pD (.sl (p0.map (HB eB))), iD p1, iD p2] [] (bD r) := by
 unfold DO at h
 refine cw (n := 24) (rs := [.tmp 6]) Tryz.func115 fun w0 S0 => ?_
 refine wq rfl (qa rfl (Ac (wp rfl (qm rfl (AJ Fo rfl (qm rfl (BZ rfl (Ac ?_))))))))
 refine Bd h (fun h => ?_) fun h => ?_
 ·refine wq rfl (qe rfl ?_)
  obtain rfl := sj h
  refine Af (sm [] [(6, bD false)] [] rfl rfl) (Au ?_)
  exact ⟨⟨[_], tm, rfl⟩, tv⟩
 ·refine Al (wp rfl (qe rfl ?_))
  refine AH (L := CC N p0 p1 p2) h (fun v2 => mk [(0, pD (.sl (p0.map (HB eB)))), (1, iD p1), (2, iD p2), (7, iD v2)] []) (fun v3 => mk [] []) (fun _ _ => rfl) (sm [] _ _ rfl rfl) (fun j2 n2 v2 h => ?_) (fun v3 s h hs => ?_)
  ·unfold CC at h
   refine wp rfl (qw 2 rfl (AT rfl (Ac ?_)))
   refine Bd h (fun h => ?_) fun h => ?_
   ·refine Al (AN (AL (wq rfl (qw 2 rfl ?_))))
    refine BT h fun v5 a5 b5 h => qi Fo La a5 (Ae b5) rfl (qk Od rfl (AJ FZ rfl (qm rfl (BZ rfl (Ac ?_)))))
    refine Bd h (fun h => ?_) fun h => ?_
    ·refine wq rfl (qe rfl ?_)
     obtain rfl := sj h
     refine Af (sm [] [(6, bD false)] [] rfl rfl) (Au ?_)
     exact ⟨⟨[_], tm, rfl⟩, tv⟩
    ·refine Al (Ai Az rfl (qm rfl (AZ rfl (qe rfl ?_))))
     exact sn [] h
   ·refine AS ?_
    exact sn [] h
  ·refine Af hs (wq rfl (qe rfl ?_))
   obtain rfl := sj h
   refine Af (sm [] [(6, bD true)] [] rfl rfl) (Au ?_)
   exact ⟨⟨[_], tm, rfl⟩, tv⟩
theorem Lu (N : Nat) (p0 : Aa) (p1 : An) (r : Int) (h : ER N p0 p1 = some r) : Av zA0 76 [.e (.agg (Ag p0)), .e (.agg (Be p1))] [] (iD r) := by
 unfold ER at h
 refine cw (n := 101) (rs := [.tmp 4]) Tryz.func76 fun w0 S0 => ?_
 refine wq rfl (qb rfl (qb rfl (qa rfl (Ac (AN ?_)))))
 refine AR h (fun v1 => mk [(2, oD (.ptr 2 0)), (3, oD (.ptr 3 0)), (22, bD v1)] [(2, .box (Ag p0)), (3, .box (Be p1))]) (fun j1 h => ?_) (fun v1 h => ?_)
 ·refine Ai Az rfl (qf F8 rfl (ql BW rfl (AT rfl (qm rfl ?_))))
  refine Ec 10 h rfl (fun h => ?_) fun h => ?_
  ·refine qw 3 rfl (qp rfl (qw 4 rfl (qu rfl (qu rfl (qn rfl (qp rfl (Ac ?_)))))))
   exact sn [] h
  ·refine qf F8 rfl (ql BW rfl (Gt rfl (qp rfl (qm rfl ?_))))
   refine Ec 15 h rfl (fun h => ?_) fun h => ?_
   ·refine qw 3 rfl (qu rfl (qu rfl (qn rfl (qp rfl (Ac ?_)))))
    exact sn [] h
   ·refine qf IH rfl (ql Td rfl (qm rfl ?_))
    refine Ec 18 h rfl (fun h => ?_) fun h => ?_
    ·refine qL HT DR rfl ?_
     refine BY h fun v5 a5 h => Ay [] (Cu N p1 v5 a5) Rg rfl (qp rfl (qp rfl (Ac ?_)))
     exact sn [] h
    ·refine qw 2 rfl (qp rfl (qp rfl (Ac ?_)))
     exact sn [] h
 ·refine Bd h (fun h => ?_) fun h => ?_
  ·refine wq rfl (qe rfl ?_)
   obtain rfl := sj h
   refine Af (sm [] [(4, iD 1)] [] rfl rfl) (Au ?_)
   exact ⟨⟨[_], tm, rfl⟩, tv⟩
  ·refine Al (wq rfl (qf Bv rfl (ql A1 rfl (AJ Ax rfl (qa rfl (Ac (AN ?_)))))))
   refine AR h (fun v7 => mk [(2, oD (.ptr 2 0)), (3, oD (.ptr 3 0)), (45, bD v7)] [(2, .box (Ag p0)), (3, .box (Be p1))]) (fun j7 h => ?_) (fun v7 h => ?_)
   ·refine Ai Az rfl (qf Dk rfl (ql BW rfl (AT rfl (qm rfl ?_))))
    refine Ec 29 h rfl (fun h => ?_) fun h => ?_
    ·refine qw 4 rfl (qp rfl (qw 4 rfl (qp rfl (qw 5 rfl (qp rfl (Ac ?_))))))
     exact sn [] h
    ·refine qf Dk rfl (ql BW rfl (qm rfl (ET rfl (qp rfl (qm rfl ?_)))))
     refine Ec 35 h rfl (fun h => ?_) fun h => ?_
     ·refine qw 3 rfl (qp rfl (qw 5 rfl (qp rfl (Ac ?_))))
      exact sn [] h
     ·refine qf Ic rfl (ql BW rfl (AT rfl (qp rfl (qm rfl ?_))))
      refine Ec 40 h rfl (fun h => ?_) fun h => ?_
      ·refine qw 4 rfl (qp rfl (Ac ?_))
       exact sn [] h
      ·refine qf Ic rfl (ql BW rfl (qm rfl (ET rfl (qp rfl (Ac ?_)))))
       exact sn [] h
   ·refine Bd h (fun h => ?_) fun h => ?_
    ·refine wq rfl (qe rfl ?_)
     obtain rfl := sj h
     refine Af (sm [] [(4, iD 4)] [] rfl rfl) (Au ?_)
     exact ⟨⟨[_], tm, rfl⟩, tv⟩
    ·refine Al (wp rfl (qf HQ rfl (ql Jl rfl (qf Bv rfl (ql A1 rfl (qf Dk rfl (ql BW rfl ?_)))))))
     refine BT h fun v12 a12 b12 h => qi Ax Da a12 (Ae b12) rfl (qk BW rfl (qf Bv rfl (ql A1 rfl (qf Ic rfl (ql BW rfl ?_)))))
     refine BT h fun v13 a13 b13 h => qi Ax Da a13 (Ae b13) rfl (qk BW rfl ?_)
     refine BY h fun v14 a14 h => Ay [] (Is N p1.fk v12 v13 v14 a14) YN rfl (CF rfl (AK (by kernel_rfl) ?_))
     refine Bd h (fun h => ?_) fun h => ?_
     ·refine wq rfl (qe rfl ?_)
      obtain rfl := sj h
      refine Af (sm [] [(4, iD 6)] [] rfl rfl) (Au ?_)
      exact ⟨⟨[_], tm, rfl⟩, tv⟩
     ·refine Al (wp rfl (qf F8 rfl (ql BW rfl (BZ rfl (Ac ?_)))))
      refine Bd h (fun h => ?_) fun h => ?_
      ·refine wp rfl (qf GI rfl (ql Jl rfl (AJ Fo rfl (BZ rfl (Ac ?_)))))
       refine Bd h (fun h => ?_) fun h => ?_
       ·refine wq rfl (qe rfl ?_)
        obtain rfl := sj h
        refine Af (sm [] [(4, iD 6)] [] rfl rfl) (Au ?_)
        exact ⟨⟨[_], tm, rfl⟩, tv⟩
       ·refine Al (wq rfl (qe rfl ?_))
        obtain rfl := sj h
        refine Af (sm [] [(4, iD 0)] [] rfl rfl) (Au ?_)
        exact ⟨⟨[_], tm, rfl⟩, tv⟩
      ·refine Al (wp rfl (qf GI rfl (ql Jl rfl (qf Bv rfl (ql A1 rfl (qf Dk rfl (ql BW rfl ?_)))))))
       refine BT h fun v18 a18 b18 h => qi Ax Da a18 (Ae b18) rfl (qk BW rfl (qf Bv rfl (ql A1 rfl (qf Dk rfl (ql BW rfl ?_)))))
       refine BT h fun v19 a19 b19 h => qi Ax Da a19 (Ae b19) rfl (qk BW rfl ?_)
       refine BY h fun v20 a20 h => Ay [] (Is N p1.fo v18 v19 v20 a20) YN rfl (CF rfl (AK (by kernel_rfl) ?_))
       refine Bd h (fun h => ?_) fun h => ?_
       ·refine wq rfl (qe rfl ?_)
        obtain rfl := sj h
        refine Af (sm [] [(4, iD 6)] [] rfl rfl) (Au ?_)
        exact ⟨⟨[_], tm, rfl⟩, tv⟩
       ·refine Al (wp rfl (qe rfl ?_))
        refine AH (L := B8 N p1) h (fun v22 => mk [(3, oD (.ptr 3 0)), (6, iD v22)] [(3, .box (Be p1))]) (fun v23 => mk [] []) (fun _ _ => rfl) (sm [] _ _ rfl rfl) (fun j22 n22 v22 h => ?_) (fun v23 s h hs => ?_)
        ·unfold B8 at h
         refine wp rfl (qm rfl (qf GI rfl (ql Jl rfl (AJ Fo rfl (AT rfl (Ac ?_))))))
         refine Bd h (fun h => ?_) fun h => ?_
         ·refine Al (AN (AL (wq rfl (qf GI rfl (ql Jl rfl (qm rfl ?_))))))
          refine BT h fun v25 a25 b25 h => qi Fo La a25 (Ae b25) rfl (qk Od rfl (qm rfl ?_))
          refine BT h fun v26 a26 b26 h => qi FZ PQ a26 (Ae b26) rfl (qk Td rfl (CF rfl (Ac ?_)))
          refine Bd h (fun h => ?_) fun h => ?_
          ·refine wq rfl (qe rfl ?_)
           obtain rfl := sj h
           refine Af (sm [] [(4, iD 1)] [] rfl rfl) (Au ?_)
           exact ⟨⟨[_], tm, rfl⟩, tv⟩
          ·refine Al (Ai Az rfl (qm rfl (AZ rfl (qe rfl ?_))))
           exact sn [] h
         ·refine AS ?_
          exact sn [] h
        ·refine Af hs (wq rfl (qe rfl ?_))
         obtain rfl := sj h
         refine Af (sm [] [(4, iD 0)] [] rfl rfl) (Au ?_)
         exact ⟨⟨[_], tm, rfl⟩, tv⟩
theorem Ef (N : Nat) (p0 : Aa) (r : Int) (h : Bn N p0 = some r) : Av zA0 35 [.e (.agg (Ag p0))] [] (iD r) := by
 unfold Bn at h
 refine cw (n := 102) (rs := [.tmp 2]) Tryz.func35 fun w0 S0 => ?_
 refine wq rfl (qb rfl (qa rfl (Ac (AN ?_))))
 refine AR h (fun v1 => mk [(1, oD (.ptr 1 0)), (16, bD v1)] [(1, .box (Ag p0))]) (fun j1 h => ?_) (fun v1 h => ?_)
 ·refine Ai Az rfl (qf Bv rfl (ql A1 rfl (AJ Ax rfl (Gt rfl (qm rfl ?_)))))
  refine Ec 11 h rfl (fun h => ?_) fun h => ?_
  ·refine qw 4 rfl (qp rfl (Ac ?_))
   exact sn [] h
  ·refine qf BU rfl (ql Gi rfl (AJ Dc rfl (Gt rfl (qp rfl (Ac ?_)))))
   exact sn [] h
 ·refine Bd h (fun h => ?_) fun h => ?_
  ·refine wq rfl (qe rfl ?_)
   obtain rfl := sj h
   refine Af (sm [] [(2, iD 3)] [] rfl rfl) (Au ?_)
   exact ⟨⟨[_], tm, rfl⟩, tv⟩
  ·refine Al (AN ?_)
   refine AR h (fun v4 => mk [(1, oD (.ptr 1 0)), (32, bD v4)] [(1, .box (Ag p0))]) (fun j4 h => ?_) (fun v4 h => ?_)
   ·refine Ai Az rfl (qf GT rfl (ql A1 rfl (AJ Ax rfl (qf Bv rfl (ql A1 rfl (AJ Ax rfl (BZ rfl (qm rfl ?_))))))))
    refine Ec 24 h rfl (fun h => ?_) fun h => ?_
    ·refine qw 7 rfl (qp rfl (Ac ?_))
     exact sn [] h
    ·refine qf HO rfl (ql A1 rfl (AJ Ax rfl (qf Bv rfl (ql A1 rfl (AJ Ax rfl (BZ rfl (qp rfl (Ac ?_))))))))
     exact sn [] h
   ·refine Bd h (fun h => ?_) fun h => ?_
    ·refine wq rfl (qe rfl ?_)
     obtain rfl := sj h
     refine Af (sm [] [(2, iD 6)] [] rfl rfl) (Au ?_)
     exact ⟨⟨[_], tm, rfl⟩, tv⟩
    ·refine Al (wp rfl (qe rfl ?_))
     refine AH (L := Bm N p0) h (fun v7 => mk [(1, oD (.ptr 1 0)), (3, iD v7)] [(1, .box (Ag p0))]) (fun v8 => mk [(1, oD (.ptr 1 0))] [(1, .box (Ag p0))]) (fun _ _ => rfl) (sm [] _ _ rfl rfl) (fun j7 n7 v7 h => ?_) (fun v8 s h hs => ?_)
     ·unfold Bm at h
      refine wp rfl (qm rfl (qf Bv rfl (ql A1 rfl (AJ Ax rfl (AT rfl (Ac ?_))))))
      refine Bd h (fun h => ?_) fun h => ?_
      ·refine Al (AN (AL (wq rfl (qf Bv rfl (ql A1 rfl (qm rfl ?_))))))
       refine BT h fun v10 a10 b10 h => qi Ax Da a10 (Ae b10) rfl (qk BW rfl (qe rfl ?_))
       refine AR h (fun v11 => mk [(1, oD (.ptr 1 0)), (3, iD v7), (84, bD v11)] [(1, .box (Ag p0))]) (fun j11 h => ?_) (fun v11 h => ?_)
       ·refine Ai Az rfl (qm rfl (AT rfl (qm rfl ?_)))
        refine Ec 47 h rfl (fun h => ?_) fun h => ?_
        ·refine qw 2 rfl (qp rfl (qw 7 rfl (qp rfl (qw 8 rfl (qp rfl (qw 7 rfl (qp rfl (qw 8 rfl (qp rfl (Ac ?_))))))))))
         exact sn [] h
        ·refine qm rfl (Gt rfl (qp rfl (qm rfl ?_)))
         refine Ec 51 h rfl (fun h => ?_) fun h => ?_
         ·refine qw 6 rfl (qp rfl (qw 8 rfl (qp rfl (qw 7 rfl (qp rfl (qw 8 rfl (qp rfl (Ac ?_))))))))
          exact sn [] h
         ·refine qf GT rfl (ql A1 rfl (qm rfl ?_))
          refine BT h fun v14 a14 b14 h => qi Ax Da a14 (Ae b14) rfl (qk BW rfl (AT rfl (qp rfl (qm rfl ?_))))
          refine Ec 59 h rfl (fun h => ?_) fun h => ?_
          ·refine qw 7 rfl (qp rfl (qw 7 rfl (qp rfl (qw 8 rfl (qp rfl (Ac ?_))))))
           exact sn [] h
          ·refine qf GT rfl (ql A1 rfl (qm rfl ?_))
           refine BT h fun v16 a16 b16 h => qi Ax Da a16 (Ae b16) rfl (qk BW rfl (qm rfl (ET rfl (qp rfl (qm rfl ?_)))))
           refine Ec 68 h rfl (fun h => ?_) fun h => ?_
           ·refine qw 6 rfl (qp rfl (qw 8 rfl (qp rfl (Ac ?_))))
            exact sn [] h
           ·refine qf HO rfl (ql A1 rfl (qm rfl ?_))
            refine BT h fun v18 a18 b18 h => qi Ax Da a18 (Ae b18) rfl (qk BW rfl (AT rfl (qp rfl (qm rfl ?_))))
            refine Ec 76 h rfl (fun h => ?_) fun h => ?_
            ·refine qw 7 rfl (qp rfl (Ac ?_))
             exact sn [] h
            ·refine qf HO rfl (ql A1 rfl (qm rfl ?_))
             refine BT h fun v20 a20 b20 h => qi Ax Da a20 (Ae b20) rfl (qk BW rfl (qm rfl (ET rfl (qp rfl (Ac ?_)))))
             exact sn [] h
       ·refine Bd h (fun h => ?_) fun h => ?_
        ·refine wq rfl (qe rfl ?_)
         obtain rfl := sj h
         refine Af (sm [] [(2, iD 7)] [] rfl rfl) (Au ?_)
         exact ⟨⟨[_], tm, rfl⟩, tv⟩
        ·refine Al (Ai Az rfl (qm rfl (AZ rfl (qe rfl ?_))))
         exact sn [] h
      ·refine AS ?_
       exact sn [] h
     ·refine Af hs (wp rfl (qe rfl ?_))
      refine AH (L := Bb N p0) h (fun v22 => mk [(1, oD (.ptr 1 0)), (5, iD v22)] [(1, .box (Ag p0))]) (fun v23 => mk [] []) (fun _ _ => rfl) (sm [] _ _ rfl rfl) (fun j22 n22 v22 h => ?_) (fun v23 s h hs => ?_)
      ·unfold Bb at h
       refine wp rfl (qm rfl (qf BU rfl (ql Gi rfl (AJ Dc rfl (AT rfl (Ac ?_))))))
       refine Bd h (fun h => ?_) fun h => ?_
       ·refine Al (AN (AL (wq rfl (qL C0 Cx rfl (qf BU rfl (ql Gi rfl (qm rfl ?_)))))))
        refine BT h fun v25 a25 b25 h => qi Dc DR a25 (Ae b25) rfl (qK HT DR rfl ?_)
        refine BY h fun v26 a26 h => Ay [] (Lu N p0 v25 v26 a26) cP rfl (qa rfl (AK (by kernel_rfl) (wq rfl (qm rfl (BZ rfl (Ac ?_))))))
        refine Bd h (fun h => ?_) fun h => ?_
        ·refine wq rfl (qm rfl (qe rfl ?_))
         obtain rfl := sj h
         refine Af (sm [] [(2, iD v26)] [] rfl rfl) (Au ?_)
         exact ⟨⟨[_], tm, rfl⟩, tv⟩
        ·refine Al (Ai Az rfl (qm rfl (AZ rfl (qe rfl ?_))))
         exact sn [] h
       ·refine AS ?_
        exact sn [] h
      ·refine Af hs (wq rfl (qe rfl ?_))
       obtain rfl := sj h
       refine Af (sm [] [(2, iD 0)] [] rfl rfl) (Au ?_)
       exact ⟨⟨[_], tm, rfl⟩, tv⟩
theorem LE (N : Nat) (p0 : Aa) (r : Ab × Int) (h : EM N p0 = some r) : Av zA0 70 [.e (.agg (Ag p0))] [(1, r.1.fd.map Ap), (1, r.1.fa.map Ap), (1, r.1.fe.map C8)] (.tup [.agg [.own 0, .own 1, .own 2], .one (iC r.2)]) := by
 unfold EM at h
 refine cw (n := 68) (rs := [.cell 2 46, .tmp 3]) Tryz.func70 fun w0 S0 => ?_
 refine wq rfl (qb rfl (qz Ci rfl (qa rfl (Ac (wp rfl (qL C0 Cx rfl ?_))))))
 refine BY h fun v1 a1 h => Ay [] (Ef N p0 v1 a1) Xw rfl (qa rfl (Ac (wq rfl (qm rfl (BZ rfl (Ac ?_))))))
 refine Bd h (fun h => ?_) fun h => ?_
 ·refine wq rfl (A9 Ci Hn rfl (qm rfl (qs AF rfl (qe rfl ?_))))
  obtain rfl := sj h
  refine Af ((As 2 0 2001 1 _ rfl rfl rfl rfl).trans ((As 2 1 2002 1 _ rfl rfl rfl rfl).trans ((As 2 2 2003 1 _ rfl rfl rfl rfl).trans (sm [(1000, 2001), (1001, 2002), (1002, 2003)] [(2, oD (.ptr 2 0)), (3, iD v1)] [(2, .box [.own 1000, .own 1001, .own 1002]), (1000, .vec 1 ((([] : List Int)).map Ap)), (1001, .vec 1 ((([] : List Int)).map Ap)), (1002, .vec 1 ((([] : List Int)).map C8))] rfl rfl)))) (Au ?_)
  exact ⟨⟨[_, _], ⟨.cellN _ _ _ _ _ _ _ rfl rfl A0 AF rfl rfl (ID rfl), tm⟩, rfl⟩, ⟨rfl, rfl, rfl, tv⟩⟩
 ·refine Al (wq rfl (qz Ci rfl (Ac (wp rfl (qe rfl ?_)))))
  refine AH (L := Cl N p0) h (fun v3 => mk [(1, oD (.ptr 1 0)), (2, oD (.ptr 2 0)), (5, oD (.ptr 5 0)), (6, iD v3.2.2)] [(1, .box (Ag p0)), (2, .box [.pure (.nil0), .pure (.nil0), .pure (.nil0)]), (5, .box [.own 2004, .own 2005, .pure (.nil0)]), (2004, .vec 1 (v3.1.map Ap)), (2005, .vec 1 (v3.2.1.map Ap))]) (fun v4 => mk [(1, oD (.ptr 1 0)), (2, oD (.ptr 2 0)), (5, oD (.ptr 5 0))] [(1, .box (Ag p0)), (2, .box [.pure (.nil0), .pure (.nil0), .pure (.nil0)]), (5, .box [.own 2006, .own 2007, .pure (.nil0)]), (2006, .vec 1 (v4.1.map Ap)), (2007, .vec 1 (v4.2.map Ap))]) (fun _ _ => rfl) ((As 5 0 2008 1 _ rfl rfl rfl rfl).trans ((As 5 1 2009 1 _ rfl rfl rfl rfl).trans (sm [(2004, 2008), (2005, 2009)] _ _ rfl rfl))) (fun j3 n3 v3 h => ?_) (fun v4 s h hs => ?_)
  ·unfold Cl at h
   refine wp rfl (qm rfl (qf Bv rfl (ql A1 rfl (AJ Ax rfl (AT rfl (Ac ?_))))))
   refine Bd h (fun h => ?_) fun h => ?_
   ·refine Al (AN (AL (wq rfl (qf CE rfl (ql A1 rfl (qf GT rfl (ql A1 rfl (qm rfl ?_))))))))
    refine BT h fun v6 a6 b6 h => qi Ax Da a6 (Ae b6) rfl (qk BW rfl (DI Ax Da JZ rfl ?_))
    refine Gf h fun c7 h => DH (f := Ap) Ax Ax Da Lt JZ c7 rfl (qf CE rfl (qs W6 rfl (AK (by kernel_rfl) (Ai Az rfl (qf Br rfl (ql A1 rfl (DI Ax Da JZ rfl ?_)))))))
    refine Gf h fun c8 h => DH (f := Ap) Ax Ax Da Lt JZ c8 rfl (qf Br rfl (qs W6 rfl (Ac (Ai Az rfl (qm rfl (AZ rfl (qe rfl ?_)))))))
    exact sn [(2004, 30), (2005, 35)] h
   ·refine AS ?_
    exact sn [(2006, 2004), (2007, 2005)] h
  ·refine Af hs (wp rfl (qe rfl ?_))
   refine AH (L := Bk N p0) h (fun v9 => mk [(1, oD (.ptr 1 0)), (2, oD (.ptr 2 0)), (5, oD (.ptr 5 0)), (7, iD v9.2)] [(1, .box (Ag p0)), (2, .box [.pure (.nil0), .pure (.nil0), .pure (.nil0)]), (5, .box [.own 2010, .own 2011, .own 2012]), (2010, .vec 1 (v4.1.map Ap)), (2011, .vec 1 (v4.2.map Ap)), (2012, .vec 1 (v9.1.map C8))]) (fun v10 => mk [(2, oD (.ptr 2 0)), (5, oD (.ptr 5 0))] [(2, .box [.pure (.nil0), .pure (.nil0), .pure (.nil0)]), (5, .box [.own 2013, .own 2014, .own 2015]), (2013, .vec 1 (v4.1.map Ap)), (2014, .vec 1 (v4.2.map Ap)), (2015, .vec 1 (v10.map C8))]) (fun _ _ => rfl) ((As 5 2 2019 1 _ rfl rfl rfl rfl).trans (sm [(2010, 2006), (2011, 2007), (2012, 2019)] _ _ rfl rfl)) (fun j9 n9 v9 h => ?_) (fun v10 s h hs => ?_)
   ·unfold Bk at h
    refine wp rfl (qm rfl (qf BU rfl (ql Gi rfl (AJ Dc rfl (AT rfl (Ac ?_))))))
    refine Bd h (fun h => ?_) fun h => ?_
    ·refine Al (AN (AL (wq rfl (qe rfl ?_))))
     refine AR h (fun v12 => mk [(1, oD (.ptr 1 0)), (2, oD (.ptr 2 0)), (5, oD (.ptr 5 0)), (7, iD v9.2), (8, pD (.val (.int .u8 v12)))] [(1, .box (Ag p0)), (2, .box [.pure (.nil0), .pure (.nil0), .pure (.nil0)]), (5, .box [.own 2016, .own 2017, .own 2018]), (2016, .vec 1 (v4.1.map Ap)), (2017, .vec 1 (v4.2.map Ap)), (2018, .vec 1 (v9.1.map C8))]) (fun j12 h => ?_) (fun v12 h => ?_)
     ·refine wq rfl (qf BU rfl (ql Gi rfl (qm rfl ?_)))
      refine BT h fun v13 a13 b13 h => qi Dc DR a13 (Ae b13) rfl (qK HT DR rfl ?_)
      refine BY h fun v14 a14 h => Ay [] (Cu N v13 v14 a14) Rg rfl (Ac ?_)
      refine Bd h (fun h => ?_) fun h => ?_
      ·refine Ai Az rfl (qf GT rfl (ql A1 rfl (qf BU rfl (ql Gi rfl (qm rfl ?_)))))
       refine BT h fun v16 a16 b16 h => qi Dc DR a16 (Ae b16) rfl (qg Dk rfl (qk BW rfl ?_))
       refine BT h fun v17 a17 b17 h => qi Ax Da a17 (Ae b17) rfl (qk BW rfl ?_)
       refine Gf h fun c18 h => Jq rfl c18 (qa rfl (AK (by kernel_rfl) ?_))
       exact sn [(2016, 2010), (2017, 2011), (2018, 2012)] h
      ·refine Al ?_
       exact sn [(2016, 2010), (2017, 2011), (2018, 2012)] h
     ·refine Ai Az rfl (qf CI rfl (ql Hg rfl (qm rfl (DI Dj F3 OY rfl ?_))))
      refine Gf h fun c19 h => DH (f := C8) Dj Dj F3 R9 OY c19 rfl (qf CI rfl (qs cy rfl (Ac (Ai Az rfl (qm rfl (AZ rfl (qe rfl ?_)))))))
      exact sn [(2010, 2016), (2011, 2017), (2012, 65)] h
    ·refine AS ?_
     exact sn [(2013, 2010), (2014, 2011), (2015, 2012)] h
   ·refine Af hs (wq rfl (qL A0 AF rfl (qs AF rfl (qe rfl ?_))))
    obtain rfl := sj h
    refine Af (sm [(1000, 2013), (1001, 2014), (1002, 2015)] [(2, oD (.ptr 2 0)), (3, iD 0)] [(2, .box [.own 1000, .own 1001, .own 1002]), (1000, .vec 1 (v4.1.map Ap)), (1001, .vec 1 (v4.2.map Ap)), (1002, .vec 1 (v10.map C8))] rfl rfl) (Au ?_)
    exact ⟨⟨[_, _], ⟨.cellN _ _ _ _ _ _ _ rfl rfl A0 AF rfl rfl (ID rfl), tm⟩, rfl⟩, ⟨rfl, rfl, rfl, tv⟩⟩
theorem KP (N : Nat) (p0 : Ab) (r : Ab) (h : Ew N p0 = some r) : Av zA0 142 [.e (.agg (AB p0))] [(1, r.fd.map Ap), (1, r.fa.map Ap), (1, r.fe.map C8)] (.e (.agg [.own 0, .own 1, .own 2])) := by
 unfold Ew at h
 refine cw (n := 16) (rs := [.cell 2 46]) Tryz.func142 fun w0 S0 => ?_
 refine wq rfl (qb rfl (qz Ci rfl (Ac (wq rfl (DI Ax Da JZ rfl (qf CE rfl (ql A1 rfl ?_)))))))
 refine Gf h fun c1 h => HC (f := Ap) Ax Ax Da Lt JZ (fun _ => rfl) c1 rfl (DI Ax Da JZ rfl (qf Br rfl (ql A1 rfl ?_)))
 refine Gf h fun c2 h => HC (f := Ap) Ax Ax Da Lt JZ (fun _ => rfl) c2 rfl (DI Dj F3 OY rfl (qf CI rfl (ql Hg rfl ?_)))
 refine Gf h fun c3 h => HC (f := C8) Dj Dj F3 R9 OY (fun _ => rfl) c3 rfl (A9 Ci Hn rfl (qs AF rfl (AK (by kernel_rfl) ?_)))
 obtain rfl := sj h
 refine Af (sm [(1000, 6), (1001, 10), (1002, 14)] [(2, oD (.ptr 2 0))] [(2, .box [.own 1000, .own 1001, .own 1002]), (1000, .vec 1 (((([] : List Int)) ++ p0.fd).map Ap)), (1001, .vec 1 (((([] : List Int)) ++ p0.fa).map Ap)), (1002, .vec 1 (((([] : List Int)) ++ p0.fe).map C8))] rfl rfl) (Au ?_)
 exact ⟨⟨[_], ⟨.cellN _ _ _ _ _ _ _ rfl rfl A0 AF rfl rfl (ID rfl), tv⟩, rfl⟩, ⟨rfl, rfl, rfl, tv⟩⟩
theorem Mh (N : Nat) (p0 : Ab) (r : (List Ab)) (h : EA N p0 = some r) : Av zA0 111 [.e (.agg (AB p0))] [(3, r.map Ar)] (oD (.own 0)) := by
 unfold EA at h
 refine cw (n := 62) (rs := [.tmp 2]) Tryz.func111 fun w0 S0 => ?_
 refine wq rfl (qb rfl (qa rfl (Ac (wq rfl (qa rfl (Ac (wp rfl (qe rfl ?_))))))))
 refine AH (L := CG N p0) h (fun v1 => mk [(1, oD (.ptr 1 0)), (3, iD v1.1), (4, iD v1.2)] [(1, .box (AB p0))]) (fun v2 => mk [(1, oD (.ptr 1 0)), (3, iD v2)] [(1, .box (AB p0))]) (fun _ _ => rfl) (sm [] _ _ rfl rfl) (fun j1 n1 v1 h => ?_) (fun v2 s h hs => ?_)
 ·unfold CG at h
  refine wp rfl (qm rfl (qf Br rfl (ql A1 rfl (AJ Ax rfl (AT rfl (Ac ?_))))))
  refine Bd h (fun h => ?_) fun h => ?_
  ·refine Al ?_
   refine AR h (fun v4 => mk [(1, oD (.ptr 1 0)), (3, iD v4), (4, iD v1.2)] [(1, .box (AB p0))]) (fun j4 h => ?_) (fun v4 h => ?_)
   ·refine AL (wq rfl (qf Br rfl (ql A1 rfl (qm rfl ?_))))
    refine BT h fun v5 a5 b5 h => qi Ax Da a5 (Ae b5) rfl (qk BW rfl (ET rfl (Ac ?_)))
    refine Bd h (fun h => ?_) fun h => ?_
    ·refine Ai Az rfl (qm rfl (AZ rfl (qe rfl ?_)))
     exact sn [] h
    ·refine Al ?_
     exact sn [] h
   ·refine Ai Az rfl (qm rfl (AZ rfl (qe rfl ?_)))
    exact sn [] h
  ·refine AS ?_
   exact sn [] h
 ·refine Af hs (wq rfl (qa rfl (Ac (wp rfl (qe rfl ?_)))))
  refine AH (L := BC N p0 v2) h (fun v7 => mk [(1, oD (.ptr 1 0)), (3, iD v2), (5, oD (.own 2001)), (6, iD v7.2)] [(1, .box (AB p0)), (2001, .vec 3 (v7.1.map Ar))]) (fun v8 => mk [(5, oD (.own 2002))] [(2002, .vec 3 (v8.map Ar))]) (fun _ _ => rfl) ((Ba 5 2022 3 rfl rfl rfl).trans (sm [(2001, 2022)] _ _ rfl rfl)) (fun j7 n7 v7 h => ?_) (fun v8 s h hs => ?_)
  ·unfold BC at h
   refine wp rfl (qw 2 rfl ?_)
   refine Gf h fun c9 h => Jq rfl c9 (AT rfl (Ac ?_))
   refine Bd h (fun h => ?_) fun h => ?_
   ·refine Al (AN (AL (wq rfl (qL A0 AF rfl ?_))))
    refine BY h fun v11 a11 h => Ay [2003, 2004, 2005] (KP N p0 v11 a11) ZZ rfl (qz Ci rfl (qs AF rfl (Ac (wq rfl (qa rfl (Ac (wp rfl (qe rfl ?_))))))))
    refine AH (L := B2 N p0 v7) h (fun v12 => mk [(1, oD (.ptr 1 0)), (3, iD v2), (5, oD (.own 2009)), (6, iD v7.2), (7, oD (.ptr 7 0)), (8, iD v12.2.1), (9, iD v12.2.2)] [(1, .box (AB p0)), (7, .box [.own 2006, .own 2007, .own 2008]), (2006, .vec 1 (v11.fd.map Ap)), (2007, .vec 1 (v12.1.map Ap)), (2008, .vec 1 (v11.fe.map C8)), (2009, .vec 3 (v7.1.map Ar))]) (fun v13 => mk [(1, oD (.ptr 1 0)), (3, iD v2), (5, oD (.own 2013)), (6, iD v7.2), (7, oD (.ptr 7 0))] [(1, .box (AB p0)), (7, .box [.own 2010, .own 2011, .own 2012]), (2010, .vec 1 (v11.fd.map Ap)), (2011, .vec 1 (v13.map Ap)), (2012, .vec 1 (v11.fe.map C8)), (2013, .vec 3 (v7.1.map Ar))]) (fun _ _ => rfl) (sm [(2006, 2003), (2007, 2004), (2008, 2005), (2009, 2001)] _ _ rfl rfl) (fun j12 n12 v12 h => ?_) (fun v13 s h hs => ?_)
    ·unfold B2 at h
     refine wp rfl (qm rfl (qf Br rfl (ql A1 rfl (AJ Ax rfl (AT rfl (Ac ?_))))))
     refine Bd h (fun h => ?_) fun h => ?_
     ·refine Al ?_
      refine AR h (fun v15 => mk [(1, oD (.ptr 1 0)), (3, iD v2), (5, oD (.own 2017)), (6, iD v7.2), (7, oD (.ptr 7 0)), (8, iD v15.2), (9, iD v12.2.2)] [(1, .box (AB p0)), (7, .box [.own 2014, .own 2015, .own 2016]), (2014, .vec 1 (v11.fd.map Ap)), (2015, .vec 1 (v15.1.map Ap)), (2016, .vec 1 (v11.fe.map C8)), (2017, .vec 3 (v7.1.map Ar))]) (fun j15 h => ?_) (fun v15 h => ?_)
      ·refine AL (wp rfl (qf Br rfl (ql A1 rfl (qm rfl ?_))))
       refine BT h fun v16 a16 b16 h => qi Ax Da a16 (Ae b16) rfl (qk BW rfl (AT rfl (Ac ?_)))
       refine Bd h (fun h => ?_) fun h => ?_
       ·refine AS ?_
        exact sn [(2014, 2006), (2015, 2007), (2016, 2008), (2017, 2009)] h
       ·refine Al ?_
        refine AR h (fun v18 => mk [(1, oD (.ptr 1 0)), (3, iD v2), (5, oD (.own 2021)), (6, iD v7.2), (7, oD (.ptr 7 0)), (8, iD v12.2.1), (9, iD v12.2.2)] [(1, .box (AB p0)), (7, .box [.own 2018, .own 2019, .own 2020]), (2018, .vec 1 (v11.fd.map Ap)), (2019, .vec 1 (v18.map Ap)), (2020, .vec 1 (v11.fe.map C8)), (2021, .vec 3 (v7.1.map Ar))]) (fun j18 h => ?_) (fun v18 h => ?_)
        ·refine wq rfl (qw 2 rfl ?_)
         refine Gf h fun c19 h => Jv rfl c19 (MS rfl (by decide) (BX rfl (Ac ?_)))
         refine Bd h (fun h => ?_) fun h => ?_
         ·refine Ai Az rfl (qf Br rfl (ql A1 rfl (qm rfl ?_)))
          refine BT h fun v21 a21 b21 h => qI Ax Da a21 (Ae b21) rfl ?_
          refine EH rfl rfl rfl rfl (Ae b21) rfl Da rfl (Ig rfl) (Ej Ap v12.1 _ ((-1))) ?_
          refine Ac ?_
          exact sn [(2018, 2006), (2019, 2007), (2020, 2008), (2021, 2009)] h
         ·refine Al ?_
          exact sn [(2018, 2006), (2019, 2007), (2020, 2008), (2021, 2009)] h
        ·refine Ai Az rfl (qm rfl (AZ rfl (qe rfl ?_)))
         exact sn [(2014, 2018), (2015, 2019), (2016, 2020), (2017, 2021)] h
      ·refine Ai Az rfl (qm rfl (AZ rfl (qe rfl ?_)))
       exact sn [(2006, 2014), (2007, 2015), (2008, 2016), (2009, 2017)] h
     ·refine AS ?_
      exact sn [(2010, 2006), (2011, 2007), (2012, 2008), (2013, 2009)] h
    ·refine Af hs (Ai Az rfl (qm rfl (qL A0 AF rfl (Dh (AW 2010 _ _ rfl rfl) (Dh (AW 2011 _ _ rfl rfl) (Dh (AW 2012 _ _ rfl rfl) (DI BB AF Ci rfl ?_)))))))
     refine Gf h fun c22 h => DH (f := Ar) BB BB AF NT Ci c22 rfl (qa rfl (Ac (Ai Az rfl (qm rfl (AZ rfl (qe rfl ?_))))))
     exact sn [(2001, 60)] h
   ·refine AS ?_
    exact sn [(2002, 2001)] h
  ·refine Af hs (wq rfl (qm rfl (qe rfl ?_)))
   obtain rfl := sj h
   refine Af (sm [(1000, 2002)] [(2, oD (.own 1000))] [(1000, .vec 3 (v8.map Ar))] rfl rfl) (Au ?_)
   exact ⟨⟨[_], tm, rfl⟩, ⟨rfl, tv⟩⟩
theorem Ex (N : Nat) (p0 : Ab) (p1 : Int) (r : Int) (h : B4 N p0 p1 = some r) : Av zA0 54 [.e (.agg (AB p0)), iD p1] [] (pD (.val (.int .u8 r))) := by
 unfold B4 at h
 refine cw (n := 27) (rs := [.tmp 4]) Tryz.func54 fun w0 S0 => ?_
 refine wq rfl (qb rfl (qa rfl (Ac (wq rfl (qf CE rfl (ql A1 rfl (qm rfl ?_)))))))
 refine BT h fun v1 a1 b1 h => qi Ax Da a1 (Ae b1) rfl (qk BW rfl ?_)
 refine Gf h fun c2 h => Jq rfl c2 (qe rfl ?_)
 refine AR h (fun v3 => mk [(5, pD (.val (.int .u8 v3)))] []) (fun j3 h => ?_) (fun v3 h => ?_)
 ·refine wq rfl (qf Br rfl (ql A1 rfl (qm rfl ?_)))
  refine BT h fun v4 a4 b4 h => qi Ax Da a4 (Ae b4) rfl (qk BW rfl (ET rfl (Ac ?_)))
  refine Bd h (fun h => ?_) fun h => ?_
  ·refine Ai Az rfl (qm rfl (qf Br rfl (ql A1 rfl (qm rfl ?_))))
   refine BT h fun v6 a6 b6 h => qi Ax Da a6 (Ae b6) rfl (qk BW rfl ?_)
   refine Gf h fun c7 h => Jq rfl c7 (WB rfl (qe rfl ?_))
   exact sn [] h
  ·refine Al ?_
   exact sn [] h
 ·refine wq rfl (qm rfl (qe rfl ?_))
  obtain rfl := sj h
  refine Af (sm [] [(4, pD (.val (.int .u8 v3)))] [] rfl rfl) (Au ?_)
  exact ⟨⟨[_], tm, rfl⟩, tv⟩
theorem Gu (N : Nat) (p0 : Int) (p1 : Int) (r : Bool) (h : CD N p0 p1 = some r) : Av zA0 114 [pD (.val (.int .u8 p0)), iD p1] [] (bD r) := by
 unfold CD at h
 refine cw (n := 10) (rs := [.tmp 4]) Tryz.func114 fun w0 S0 => ?_
 refine wq rfl (qa rfl (Ac (wq rfl (qw 2 rfl ?_))))
 refine Gf h fun c1 h => Jv rfl c1 (NH rfl (BX rfl (qe rfl ?_)))
 obtain rfl := sj h
 refine Af (sm [] [(4, bD (((GP .u8 ((FI .u8 p0 p1)) 1) == 1)))] [] rfl rfl) (Au ?_)
 exact ⟨⟨[_], tm, rfl⟩, tv⟩
theorem Ly (N : Nat) (p0 : Aa) (p1 : Ab) (r : (List Ad)) (h : ES N p0 p1 = some r) : Av zA0 129 [.e (.agg (Ag p0)), .e (.agg (AB p1))] [(3, r.map Ao)] (oD (.own 0)) := by
 unfold ES at h
 refine cw (n := 111) (rs := [.tmp 4]) Tryz.func129 fun w0 S0 => ?_
 refine wq rfl (qb rfl (qb rfl (qa rfl (Ac (wq rfl (qa rfl (Ac (wp rfl (qe rfl ?_)))))))))
 refine AH (L := CJ N p0 p1) h (fun v1 => mk [(2, oD (.ptr 2 0)), (3, oD (.ptr 3 0)), (5, oD (.own 2001)), (6, iD v1.2)] [(2, .box (Ag p0)), (3, .box (AB p1)), (2001, .vec 3 (v1.1.map Ao))]) (fun v2 => mk [(5, oD (.own 2002))] [(2002, .vec 3 (v2.map Ao))]) (fun _ _ => rfl) ((Ba 5 2013 3 rfl rfl rfl).trans (sm [(2001, 2013)] _ _ rfl rfl)) (fun j1 n1 v1 h => ?_) (fun v2 s h hs => ?_)
 ·unfold CJ at h
  refine wp rfl (qm rfl (qf BU rfl (ql Gi rfl (AJ Dc rfl (AT rfl (Ac ?_))))))
  refine Bd h (fun h => ?_) fun h => ?_
  ·refine Al (AN (AL (wq rfl (qf BU rfl (ql Gi rfl (qm rfl ?_))))))
   refine BT h fun v4 a4 b4 h => qi Dc DR a4 (Ae b4) rfl (qK HT DR rfl (qz Kb rfl (qs DR rfl (Ac (wq rfl (qL A0 AF rfl (qf Dk rfl (ql BW rfl ?_))))))))
   refine BY h fun v5 a5 h => Ay [] (Ex N p1 v4.fg v5 a5) WE rfl (qe rfl ?_)
   refine AR h (fun v6 => mk [(2, oD (.ptr 2 0)), (3, oD (.ptr 3 0)), (5, oD (.own 2003)), (6, iD v1.2), (7, oD (.ptr 7 0)), (8, pD (.val (.int .u8 v6)))] [(2, .box (Ag p0)), (3, .box (AB p1)), (7, .box (Be v4)), (2003, .vec 3 (v1.1.map Ao))]) (fun j6 h => ?_) (fun v6 h => ?_)
   ·refine wq rfl (qL HT DR rfl ?_)
    refine BY h fun v7 a7 h => Ay [] (Cu N v4 v7 a7) Rg rfl (Ac ?_)
    refine Bd h (fun h => ?_) fun h => ?_
    ·refine Ai Az rfl (qf CI rfl (ql Hg rfl (qm rfl ?_)))
     refine BT h fun v9 a9 b9 h => qi Dj F3 a9 (Ae b9) rfl (qk Kc rfl (qe rfl ?_))
     exact sn [(2003, 2001)] h
    ·refine Al ?_
     exact sn [(2003, 2001)] h
   ·refine wq rfl (qe rfl ?_)
    refine AH (L := BN N p0 p1 v1 v4 v6) h (fun v10 => mk [(2, oD (.ptr 2 0)), (3, oD (.ptr 3 0)), (5, oD (.own 2004)), (6, iD v1.2), (7, oD (.ptr 7 0)), (8, pD (.val (.int .u8 v6))), (9, iD v10.2)] [(2, .box (Ag p0)), (3, .box (AB p1)), (7, .box (Be v4)), (2004, .vec 3 (v10.1.map Ao))]) (fun v11 => mk [(2, oD (.ptr 2 0)), (3, oD (.ptr 3 0)), (5, oD (.own 2005)), (6, iD v1.2)] [(2, .box (Ag p0)), (3, .box (AB p1)), (2005, .vec 3 (v11.map Ao))]) (fun _ _ => rfl) (sm [(2004, 2003)] _ _ rfl rfl) (fun j10 n10 v10 h => ?_) (fun v11 s h hs => ?_)
    ·unfold BN at h
     refine wp rfl (qm rfl (qf Bv rfl (ql A1 rfl (qf Dk rfl (ql BW rfl ?_)))))
     refine BT h fun v12 a12 b12 h => qi Ax Da a12 (Ae b12) rfl (qk BW rfl (AT rfl (Ac ?_)))
     refine Bd h (fun h => ?_) fun h => ?_
     ·refine Al ?_
      refine AR h (fun v14 => mk [(2, oD (.ptr 2 0)), (3, oD (.ptr 3 0)), (5, oD (.own 2006)), (6, iD v1.2), (7, oD (.ptr 7 0)), (8, pD (.val (.int .u8 v6))), (9, iD v10.2)] [(2, .box (Ag p0)), (3, .box (AB p1)), (7, .box (Be v4)), (2006, .vec 3 (v14.map Ao))]) (fun j14 h => ?_) (fun v14 h => ?_)
      ·refine AL (wp rfl (qw 2 rfl ?_))
       refine BY h fun v15 a15 h => Ay [] (Gu N v6 v10.2 v15 a15) T9 rfl (CF rfl (Ac ?_))
       refine Bd h (fun h => ?_) fun h => ?_
       ·refine AS ?_
        exact sn [(2006, 2004)] h
       ·refine Al (wq rfl (qa rfl (Ac (wp rfl (qe rfl ?_)))))
        refine AH (L := Bo N p0 p1 v1 v4 v10) h (fun v17 => mk [(2, oD (.ptr 2 0)), (3, oD (.ptr 3 0)), (5, oD (.own 2007)), (6, iD v1.2), (7, oD (.ptr 7 0)), (8, pD (.val (.int .u8 v6))), (9, iD v10.2), (10, bD v17.2.1), (11, iD v17.2.2)] [(2, .box (Ag p0)), (3, .box (AB p1)), (7, .box (Be v4)), (2007, .vec 3 (v17.1.map Ao))]) (fun v18 => mk [(2, oD (.ptr 2 0)), (3, oD (.ptr 3 0)), (5, oD (.own 2008)), (6, iD v1.2), (7, oD (.ptr 7 0)), (8, pD (.val (.int .u8 v6))), (9, iD v10.2), (10, bD v18.2)] [(2, .box (Ag p0)), (3, .box (AB p1)), (7, .box (Be v4)), (2008, .vec 3 (v18.1.map Ao))]) (fun _ _ => rfl) (sm [(2007, 2004)] _ _ rfl rfl) (fun j17 n17 v17 h => ?_) (fun v18 s h hs => ?_)
        ·unfold Bo at h
         refine wp rfl (qm rfl (qf Bv rfl (ql A1 rfl (qf Ic rfl (ql BW rfl ?_)))))
         refine BT h fun v19 a19 b19 h => qi Ax Da a19 (Ae b19) rfl (qk BW rfl (AT rfl (Ac ?_)))
         refine Bd h (fun h => ?_) fun h => ?_
         ·refine Al ?_
          refine AR h (fun v21 => mk [(2, oD (.ptr 2 0)), (3, oD (.ptr 3 0)), (5, oD (.own 2009)), (6, iD v1.2), (7, oD (.ptr 7 0)), (8, pD (.val (.int .u8 v6))), (9, iD v10.2), (10, bD v21.2), (11, iD v17.2.2)] [(2, .box (Ag p0)), (3, .box (AB p1)), (7, .box (Be v4)), (2009, .vec 3 (v21.1.map Ao))]) (fun j21 h => ?_) (fun v21 h => ?_)
          ·refine AL (wp rfl (qL A0 AF rfl (qf Ic rfl (ql BW rfl ?_))))
           refine BY h fun v22 a22 h => Ay [] (Ex N p1 v4.fm v22 a22) WE rfl (qm rfl ?_)
           refine BY h fun v23 a23 h => Ay [] (Gu N v22 v17.2.2 v23 a23) T9 rfl (CF rfl (Ac ?_))
           refine Bd h (fun h => ?_) fun h => ?_
           ·refine AS ?_
            exact sn [(2009, 2007)] h
           ·refine Al ?_
            refine AR h (fun v25 => mk [(2, oD (.ptr 2 0)), (3, oD (.ptr 3 0)), (5, oD (.own 2010)), (6, iD v1.2), (7, oD (.ptr 7 0)), (8, pD (.val (.int .u8 v6))), (9, iD v10.2), (10, bD v25), (11, iD v17.2.2)] [(2, .box (Ag p0)), (3, .box (AB p1)), (7, .box (Be v4)), (2010, .vec 3 (v17.1.map Ao))]) (fun j25 h => ?_) (fun v25 h => ?_)
            ·refine Ai Az rfl (qw 2 rfl ?_)
             refine Ec 67 h rfl (fun h => ?_) fun h => ?_
             ·refine qw 8 rfl (qp rfl (qe rfl ?_))
              exact sn [(2010, 2007)] h
             ·refine qf HQ rfl (ql Jl rfl (qm rfl ?_))
              refine BT h fun v27 a27 b27 h => qi Fo La a27 (Ae b27) rfl (qk Od rfl (qm rfl ?_))
              refine BT h fun v28 a28 b28 h => qi FZ PQ a28 (Ae b28) rfl (qk Td rfl (qp rfl (qe rfl ?_)))
              exact sn [(2010, 2007)] h
            ·refine AR h (fun v29 => mk [(2, oD (.ptr 2 0)), (3, oD (.ptr 3 0)), (5, oD (.own 2011)), (6, iD v1.2), (7, oD (.ptr 7 0)), (8, pD (.val (.int .u8 v6))), (9, iD v10.2), (10, bD v25), (11, iD v17.2.2), (90, bD v29)] [(2, .box (Ag p0)), (3, .box (AB p1)), (7, .box (Be v4)), (2011, .vec 3 (v17.1.map Ao))]) (fun j29 h => ?_) (fun v29 h => ?_)
             ·refine Ai Az rfl (qf IH rfl (ql Td rfl (CF rfl (qm rfl ?_))))
              refine Ec 80 h rfl (fun h => ?_) fun h => ?_
              ·refine qf HQ rfl (ql Jl rfl (qm rfl ?_))
               refine BT h fun v31 a31 b31 h => qi Fo La a31 (Ae b31) rfl (qk Od rfl (qm rfl ?_))
               refine BT h fun v32 a32 b32 h => qi FZ PQ a32 (Ae b32) rfl (qk Td rfl (CF rfl (qp rfl (Ac ?_))))
               exact sn [(2011, 2010)] h
              ·refine qw 9 rfl (qp rfl (Ac ?_))
               exact sn [(2011, 2010)] h
             ·refine Bd h (fun h => ?_) fun h => ?_
              ·refine Ai Az rfl (qw 4 rfl (A9 IP Ty rfl (DI Ed E2 IP rfl ?_)))
               refine Gf h fun c34 h => DH (f := Ao) Ed Ed E2 RC IP c34 rfl (qe rfl ?_)
               exact sn [(2009, 97)] h
              ·refine Al ?_
               exact sn [(2009, 2011)] h
          ·refine Ai Az rfl (qm rfl (AZ rfl (qe rfl ?_)))
           exact sn [(2007, 2009)] h
         ·refine AS ?_
          exact sn [(2008, 2007)] h
        ·refine Af hs ?_
         refine AR h (fun v35 => mk [(2, oD (.ptr 2 0)), (3, oD (.ptr 3 0)), (5, oD (.own 2012)), (6, iD v1.2), (7, oD (.ptr 7 0)), (8, pD (.val (.int .u8 v6))), (9, iD v10.2), (103, bD v35)] [(2, .box (Ag p0)), (3, .box (AB p1)), (7, .box (Be v4)), (2012, .vec 3 (v18.1.map Ao))]) (fun j35 h => ?_) (fun v35 h => ?_)
         ·refine Ai Az rfl (qf IH rfl (ql Td rfl (qm rfl ?_)))
          refine Ec 100 h rfl (fun h => ?_) fun h => ?_
          ·refine qm rfl (CF rfl (qp rfl (Ac ?_)))
           exact sn [(2012, 2008)] h
          ·refine qw 2 rfl (qp rfl (Ac ?_))
           exact sn [(2012, 2008)] h
         ·refine Bd h (fun h => ?_) fun h => ?_
          ·refine Ai Az rfl (qw 3 rfl (A9 IP Ty rfl (DI Ed E2 IP rfl ?_)))
           refine Gf h fun c38 h => DH (f := Ao) Ed Ed E2 RC IP c38 rfl (qe rfl ?_)
           exact sn [(2006, 109)] h
          ·refine Al ?_
           exact sn [(2006, 2012)] h
      ·refine Ai Az rfl (qm rfl (AZ rfl (qe rfl ?_)))
       exact sn [(2004, 2006)] h
     ·refine AS ?_
      exact sn [(2005, 2004)] h
    ·refine Af hs (Ai Az rfl (qm rfl (AZ rfl (qe rfl ?_))))
     exact sn [(2001, 2005)] h
  ·refine AS ?_
   exact sn [(2002, 2001)] h
 ·refine Af hs (wq rfl (qm rfl (qe rfl ?_)))
  obtain rfl := sj h
  refine Af (sm [(1000, 2002)] [(4, oD (.own 1000))] [(1000, .vec 3 (v2.map Ao))] rfl rfl) (Au ?_)
  exact ⟨⟨[_], tm, rfl⟩, ⟨rfl, tv⟩⟩
theorem KL (N : Nat) (p0 : Aa) (p1 : Ab) (r : Bool) (h : Ev N p0 p1 = some r) : Av zA0 112 [.e (.agg (Ag p0)), .e (.agg (AB p1))] [] (bD r) := by
 unfold Ev at h
 refine cw (n := 10) (rs := [.tmp 4]) Tryz.func112 fun w0 S0 => ?_
 refine wq rfl (qb rfl (qb rfl (qa rfl (Ac (wq rfl (qL C0 Cx rfl (qL A0 AF rfl ?_)))))))
 refine BY h fun v1 a1 h => Ay [2001] (Ly N p0 p1 v1 a1) aj rfl (DQ Ed rfl (BX rfl (qe rfl ?_)))
 obtain rfl := sj h
 refine Af (sm [] [(4, bD (((v1.length : Int) == 0)))] [] rfl rfl) (Au ?_)
 exact ⟨⟨[_], tm, rfl⟩, tv⟩
theorem HR (N : Nat) (p0 : Aa) (p1 : Ab) (r : Bool) (h : Df N p0 p1 = some r) : Av zA0 71 [.e (.agg (Ag p0)), .e (.agg (AB p1))] [] (bD r) := by
 unfold Df at h
 refine cw (n := 22) (rs := [.tmp 4]) Tryz.func71 fun w0 S0 => ?_
 refine wq rfl (qb rfl (qb rfl (qa rfl (Ac (wq rfl (qL A0 AF rfl ?_))))))
 refine BY h fun v1 a1 h => Ay [2001] (Mh N p1 v1 a1) aT rfl (qa rfl (Ac (wp rfl (qe rfl ?_))))
 refine AH (L := Cc N p0 v1) h (fun v2 => mk [(2, oD (.ptr 2 0)), (5, oD (.own 2002)), (6, iD v2)] [(2, .box (Ag p0)), (2002, .vec 3 (v1.map Ar))]) (fun v3 => mk [] []) (fun _ _ => rfl) (sm [(2002, 2001)] _ _ rfl rfl) (fun j2 n2 v2 h => ?_) (fun v3 s h hs => ?_)
 ·unfold Cc at h
  refine wp rfl (qw 2 rfl (DQ BB rfl (AT rfl (Ac ?_))))
  refine Bd h (fun h => ?_) fun h => ?_
  ·refine Al (AN (AL (wq rfl (qL C0 Cx rfl (qw 2 rfl ?_)))))
   refine BT h fun v5 a5 b5 h => qI BB AF a5 (Ae b5) rfl (qJ A0 AF (Ae b5) rfl ?_)
   refine BY h fun v6 a6 h => Ay [] (KL N p0 v5 v6 a6) ay rfl (CF rfl (AK (by kernel_rfl) ?_))
   refine Bd h (fun h => ?_) fun h => ?_
   ·refine wq rfl (qe rfl ?_)
    obtain rfl := sj h
    refine Af (sm [] [(4, bD false)] [] rfl rfl) (Au ?_)
    exact ⟨⟨[_], tm, rfl⟩, tv⟩
   ·refine Al (Ai Az rfl (qm rfl (AZ rfl (qe rfl ?_))))
    exact sn [] h
  ·refine AS ?_
   exact sn [] h
 ·refine Af hs (wq rfl (qe rfl ?_))
  obtain rfl := sj h
  refine Af (sm [] [(4, bD true)] [] rfl rfl) (Au ?_)
  exact ⟨⟨[_], tm, rfl⟩, tv⟩
theorem Iz (N : Nat) (p0 : Aa) (p1 : Ab) (r : Int) (h : D7 N p0 p1 = some r) : Av zA0 82 [.e (.agg (Ag p0)), .e (.agg (AB p1))] [] (iD r) := by
 unfold D7 at h
 refine cw (n := 154) (rs := [.tmp 4]) Tryz.func82 fun w0 S0 => ?_
 refine wq rfl (qb rfl (qb rfl (qa rfl (Ac (wp rfl (qL C0 Cx rfl ?_))))))
 refine BY h fun v1 a1 h => Ay [] (Ef N p0 v1 a1) Xw rfl (qa rfl (Ac (wq rfl (qm rfl (BZ rfl (Ac ?_))))))
 refine Bd h (fun h => ?_) fun h => ?_
 ·refine wq rfl (qm rfl (qe rfl ?_))
  obtain rfl := sj h
  refine Af (sm [] [(4, iD v1)] [] rfl rfl) (Au ?_)
  exact ⟨⟨[_], tm, rfl⟩, tv⟩
 ·refine Al (wq rfl (qf Bv rfl (ql A1 rfl (AJ Ax rfl (qa rfl (Ac (AN ?_)))))))
  refine AR h (fun v3 => mk [(2, oD (.ptr 2 0)), (3, oD (.ptr 3 0)), (6, iD ((p0.fb.length : Int))), (39, bD v3)] [(2, .box (Ag p0)), (3, .box (AB p1))]) (fun j3 h => ?_) (fun v3 h => ?_)
  ·refine Ai Az rfl (qf CE rfl (ql A1 rfl (AJ Ax rfl (qm rfl (BZ rfl (qm rfl ?_))))))
   refine Ec 24 h rfl (fun h => ?_) fun h => ?_
   ·refine qw 5 rfl (qp rfl (qw 8 rfl (qp rfl (Ac ?_))))
    exact sn [] h
   ·refine qf Br rfl (ql A1 rfl (AJ Ax rfl (qm rfl (BZ rfl (qp rfl (qm rfl ?_))))))
    refine Ec 31 h rfl (fun h => ?_) fun h => ?_
    ·refine qw 7 rfl (qp rfl (Ac ?_))
     exact sn [] h
    ·refine qf CI rfl (ql Hg rfl (AJ Dj rfl (qf BU rfl (ql Gi rfl (AJ Dc rfl (BZ rfl (qp rfl (Ac ?_))))))))
     exact sn [] h
  ·refine Bd h (fun h => ?_) fun h => ?_
   ·refine wq rfl (qe rfl ?_)
    obtain rfl := sj h
    refine Af (sm [] [(4, iD 6)] [] rfl rfl) (Au ?_)
    exact ⟨⟨[_], tm, rfl⟩, tv⟩
   ·refine Al (wp rfl (qe rfl ?_))
    refine AH (L := Cj N p0 p1) h (fun v7 => mk [(2, oD (.ptr 2 0)), (3, oD (.ptr 3 0)), (6, iD ((p0.fb.length : Int))), (7, iD v7)] [(2, .box (Ag p0)), (3, .box (AB p1))]) (fun v8 => mk [(2, oD (.ptr 2 0)), (3, oD (.ptr 3 0))] [(2, .box (Ag p0)), (3, .box (AB p1))]) (fun _ _ => rfl) (sm [] _ _ rfl rfl) (fun j7 n7 v7 h => ?_) (fun v8 s h hs => ?_)
    ·unfold Cj at h
     refine wp rfl (qw 2 rfl (AT rfl (Ac ?_)))
     refine Bd h (fun h => ?_) fun h => ?_
     ·refine Al (AN (AL (AN ?_)))
      refine AR h (fun v10 => mk [(2, oD (.ptr 2 0)), (3, oD (.ptr 3 0)), (6, iD ((p0.fb.length : Int))), (7, iD v7), (84, bD v10)] [(2, .box (Ag p0)), (3, .box (AB p1))]) (fun j10 h => ?_) (fun v10 h => ?_)
      ·refine Ai Az rfl (qf CE rfl (ql A1 rfl (qm rfl ?_)))
       refine BT h fun v11 a11 b11 h => qi Ax Da a11 (Ae b11) rfl (qk BW rfl (AT rfl (qm rfl ?_)))
       refine Ec 51 h rfl (fun h => ?_) fun h => ?_
       ·refine qw 11 rfl (qp rfl (qw 7 rfl (qp rfl (qw 12 rfl (qp rfl (AK (by kernel_rfl) ?_))))))
        exact sn [] h
       ·refine qf CE rfl (ql A1 rfl (qm rfl ?_))
        refine BT h fun v13 a13 b13 h => qi Ax Da a13 (Ae b13) rfl (qk BW rfl (qf Bv rfl (ql A1 rfl (qm rfl ?_))))
        refine BT h fun v14 a14 b14 h => qi Ax Da a14 (Ae b14) rfl (qk BW rfl (ET rfl (qp rfl (qm rfl ?_))))
        refine Ec 64 h rfl (fun h => ?_) fun h => ?_
        ·refine qw 6 rfl (qp rfl (qw 12 rfl (qp rfl (AK (by kernel_rfl) ?_))))
         exact sn [] h
        ·refine qf Br rfl (ql A1 rfl (qm rfl ?_))
         refine BT h fun v16 a16 b16 h => qi Ax Da a16 (Ae b16) rfl (qk BW rfl (AT rfl (qp rfl (qm rfl ?_))))
         refine Ec 72 h rfl (fun h => ?_) fun h => ?_
         ·refine qw 11 rfl (qp rfl (AK (by kernel_rfl) ?_))
          exact sn [] h
         ·refine qf Br rfl (ql A1 rfl (qm rfl ?_))
          refine BT h fun v18 a18 b18 h => qi Ax Da a18 (Ae b18) rfl (qk BW rfl (qf Bv rfl (ql A1 rfl (qm rfl ?_))))
          refine BT h fun v19 a19 b19 h => qi Ax Da a19 (Ae b19) rfl (qk BW rfl (ET rfl (qp rfl (AK (by kernel_rfl) ?_))))
          exact sn [] h
      ·refine Bd h (fun h => ?_) fun h => ?_
       ·refine wq rfl (qe rfl ?_)
        obtain rfl := sj h
        refine Af (sm [] [(4, iD 7)] [] rfl rfl) (Au ?_)
        exact ⟨⟨[_], tm, rfl⟩, tv⟩
       ·refine Al (wq rfl (qf CE rfl (ql A1 rfl (qm rfl ?_))))
        refine BT h fun v21 a21 b21 h => qi Ax Da a21 (Ae b21) rfl (qk BW rfl (qf Br rfl (ql A1 rfl (qm rfl ?_))))
        refine BT h fun v22 a22 b22 h => qi Ax Da a22 (Ae b22) rfl (qk BW rfl (BX rfl (AK (by kernel_rfl) ?_)))
        refine Bd h (fun h => ?_) fun h => ?_
        ·refine wq rfl (qe rfl ?_)
         obtain rfl := sj h
         refine Af (sm [] [(4, iD 1)] [] rfl rfl) (Au ?_)
         exact ⟨⟨[_], tm, rfl⟩, tv⟩
        ·refine Al (Ai Az rfl (qm rfl (AZ rfl (qe rfl ?_))))
         exact sn [] h
     ·refine AS ?_
      exact sn [] h
    ·refine Af hs (wp rfl (qe rfl ?_))
     refine AH (L := B9 N p0 p1) h (fun v24 => mk [(2, oD (.ptr 2 0)), (3, oD (.ptr 3 0)), (8, iD v24)] [(2, .box (Ag p0)), (3, .box (AB p1))]) (fun v25 => mk [] []) (fun _ _ => rfl) (sm [] _ _ rfl rfl) (fun j24 n24 v24 h => ?_) (fun v25 s h hs => ?_)
     ·unfold B9 at h
      refine wp rfl (qm rfl (qf BU rfl (ql Gi rfl (AJ Dc rfl (AT rfl (Ac ?_))))))
      refine Bd h (fun h => ?_) fun h => ?_
      ·refine Al (AN (AL (wq rfl (qf BU rfl (ql Gi rfl (qm rfl ?_))))))
       refine BT h fun v27 a27 b27 h => qi Dc DR a27 (Ae b27) rfl (qK HT DR rfl (qz Kb rfl (qs DR rfl (Ac (wq rfl (qf Bv rfl (ql A1 rfl (qf Dk rfl (ql BW rfl ?_)))))))))
       refine BT h fun v28 a28 b28 h => qi Ax Da a28 (Ae b28) rfl (qk BW rfl ?_)
       refine Gf h fun c29 h => Jq rfl c29 (Qa rfl (qe rfl ?_))
       refine AR h (fun v30 => mk [(2, oD (.ptr 2 0)), (3, oD (.ptr 3 0)), (8, iD v24), (153, bD v30)] [(2, .box (Ag p0)), (3, .box (AB p1))]) (fun j30 h => ?_) (fun v30 h => ?_)
       ·refine Ai Az rfl (qL HT DR rfl ?_)
        refine BY h fun v31 a31 h => Ay [] (Cu N v27 v31 a31) Rg rfl (CF rfl (qm rfl ?_))
        refine Ec 119 h rfl (fun h => ?_) fun h => ?_
        ·refine qf CI rfl (ql Hg rfl (qm rfl ?_))
         refine BT h fun v33 a33 b33 h => qi Dj F3 a33 (Ae b33) rfl (qk Kc rfl (BZ rfl (qp rfl (qm rfl ?_))))
         refine Ec 127 h rfl (fun h => ?_) fun h => ?_
         ·refine qw 3 rfl (qu rfl (qu rfl (qu rfl (qu rfl (qu rfl (qu rfl (qu rfl (qu rfl (qu rfl (qu rfl (qu rfl (qu rfl (qu rfl (qu rfl (qu rfl (qu rfl (qu rfl (qu rfl (qu rfl (qu rfl (qu rfl (qn rfl (qp rfl (AK (by kernel_rfl) ?_))))))))))))))))))))))))
          exact sn [] h
         ·refine qL HT DR rfl ?_
          refine BY h fun v35 a35 h => Ay [] (Cu N v27 v35 a35) Rg rfl (qm rfl ?_)
          refine Ec 130 h rfl (fun h => ?_) fun h => ?_
          ·refine qf CI rfl (ql Hg rfl (qm rfl ?_))
           refine BT h fun v37 a37 b37 h => qi Dj F3 a37 (Ae b37) rfl (qk Kc rfl (qm rfl (Jf rfl (BZ rfl (qm rfl ?_)))))
           refine Ec 139 h rfl (fun h => ?_) fun h => ?_
           ·refine qw 11 rfl (qp rfl (qp rfl (qp rfl (AK (by kernel_rfl) ?_))))
            exact sn [] h
           ·refine qL A0 AF rfl (qf Dk rfl (ql BW rfl ?_))
            refine BY h fun v39 a39 h => Ay [] (Ex N p1 v27.fg v39 a39) WE rfl (qf CI rfl (ql Hg rfl (qm rfl ?_)))
            refine BT h fun v40 a40 b40 h => qi Dj F3 a40 (Ae b40) rfl (qk Kc rfl (Jf rfl (BZ rfl (qp rfl (qp rfl (qp rfl (AK (by kernel_rfl) ?_)))))))
            exact sn [] h
          ·refine qw 9 rfl (qu rfl (qu rfl (qu rfl (qu rfl (qu rfl (qu rfl (qu rfl (qu rfl (qu rfl (qu rfl (qu rfl (qn rfl (qp rfl (qp rfl (AK (by kernel_rfl) ?_)))))))))))))))
           exact sn [] h
        ·refine qw 6 rfl (qp rfl (qm rfl (qL HT DR rfl ?_)))
         refine BY h fun v41 a41 h => Ay [] (Cu N v27 v41 a41) Rg rfl (qm rfl ?_)
         refine Ec 130 h rfl (fun h => ?_) fun h => ?_
         ·refine qf CI rfl (ql Hg rfl (qm rfl ?_))
          refine BT h fun v43 a43 b43 h => qi Dj F3 a43 (Ae b43) rfl (qk Kc rfl (qm rfl (Jf rfl (BZ rfl (qm rfl ?_)))))
          refine Ec 139 h rfl (fun h => ?_) fun h => ?_
          ·refine qw 11 rfl (qp rfl (qp rfl (qp rfl (AK (by kernel_rfl) ?_))))
           exact sn [] h
          ·refine qL A0 AF rfl (qf Dk rfl (ql BW rfl ?_))
           refine BY h fun v45 a45 h => Ay [] (Ex N p1 v27.fg v45 a45) WE rfl (qf CI rfl (ql Hg rfl (qm rfl ?_)))
           refine BT h fun v46 a46 b46 h => qi Dj F3 a46 (Ae b46) rfl (qk Kc rfl (Jf rfl (BZ rfl (qp rfl (qp rfl (qp rfl (AK (by kernel_rfl) ?_)))))))
           exact sn [] h
         ·refine qw 9 rfl (qu rfl (qu rfl (qu rfl (qu rfl (qu rfl (qu rfl (qu rfl (qu rfl (qu rfl (qu rfl (qu rfl (qn rfl (qp rfl (qp rfl (AK (by kernel_rfl) ?_)))))))))))))))
          exact sn [] h
       ·refine Bd h (fun h => ?_) fun h => ?_
        ·refine wq rfl (qe rfl ?_)
         obtain rfl := sj h
         refine Af (sm [] [(4, iD 1)] [] rfl rfl) (Au ?_)
         exact ⟨⟨[_], tm, rfl⟩, tv⟩
        ·refine Al (Ai Az rfl (qm rfl (AZ rfl (qe rfl ?_))))
         exact sn [] h
      ·refine AS ?_
       exact sn [] h
     ·refine Af hs (wq rfl (qe rfl ?_))
      obtain rfl := sj h
      refine Af (sm [] [(4, iD 0)] [] rfl rfl) (Au ?_)
      exact ⟨⟨[_], tm, rfl⟩, tv⟩
theorem LA (N : Nat) (p0 : Ah) (r : Bool) (h : EI N p0 = some r) : Av zA0 143 [.e (.agg (DD p0))] [] (bD r) := by
 unfold EI at h
 refine cw (n := 31) (rs := [.tmp 2]) Tryz.func143 fun w0 S0 => ?_
 refine wq rfl (qb rfl (qe rfl ?_))
 refine AR h (fun v1 => mk [(2, bD v1)] []) (fun j1 h => ?_) (fun v1 h => ?_)
 ·refine Ai Az rfl (qf F4 rfl (ql BW rfl (ET rfl (qm rfl ?_))))
  refine Ec 6 h rfl (fun h => ?_) fun h => ?_
  ·refine qf F4 rfl (ql BW rfl (Yv rfl (qp rfl (qm rfl ?_))))
   refine Ec 11 h rfl (fun h => ?_) fun h => ?_
   ·refine qf Fm rfl (ql BW rfl (ET rfl (qp rfl (qm rfl ?_))))
    refine Ec 16 h rfl (fun h => ?_) fun h => ?_
    ·refine qf Hi rfl (ql BW rfl (ET rfl (qp rfl (qm rfl ?_))))
     refine Ec 21 h rfl (fun h => ?_) fun h => ?_
     ·refine qf F4 rfl (ql BW rfl (BX rfl (qm rfl ?_)))
      refine Ec 25 h rfl (fun h => ?_) fun h => ?_
      ·refine qw 3 rfl (qp rfl (qp rfl (qe rfl ?_)))
       exact sn [] h
      ·refine qf Hi rfl (ql BW rfl (BX rfl (qp rfl (qp rfl (qe rfl ?_)))))
       exact sn [] h
     ·refine qw 4 rfl (qu rfl (qu rfl (qu rfl (qn rfl (qp rfl (qe rfl ?_))))))
      exact sn [] h
    ·refine qw 3 rfl (qp rfl (qw 5 rfl (qu rfl (qu rfl (qu rfl (qn rfl (qp rfl (qe rfl ?_))))))))
     exact sn [] h
   ·refine qw 3 rfl (qp rfl (qw 4 rfl (qp rfl (qw 5 rfl (qu rfl (qu rfl (qu rfl (qn rfl (qp rfl (qe rfl ?_))))))))))
    exact sn [] h
  ·refine qw 3 rfl (qp rfl (qw 4 rfl (qp rfl (qw 4 rfl (qp rfl (qw 5 rfl (qu rfl (qu rfl (qu rfl (qn rfl (qp rfl (qe rfl ?_))))))))))))
   exact sn [] h
 ·obtain rfl := sj h
  refine Af (sm [] [(2, bD v1)] [] rfl rfl) (Au ?_)
  exact ⟨⟨[_], tm, rfl⟩, tv⟩
theorem IC (N : Nat) (p0 : Aa) (p1 : Ab) (p2 : Ah) (r : Ab × Bool) (h : CQ N p0 p1 p2 = some r) : Av zA0 73 [.e (.agg (Ag p0)), .e (.agg (AB p1)), .e (.agg (DD p2))] [(1, r.1.fd.map Ap), (1, r.1.fa.map Ap), (1, r.1.fe.map C8)] (.tup [.agg [.own 0, .own 1, .own 2], .one (.pure (.val (.bool r.2)))]) := by
 unfold CQ at h
 refine cw (n := 201) (rs := [.cell 6 46, .tmp 7]) Tryz.func73 fun w0 S0 => ?_
 refine wq rfl (qb rfl (qb rfl (qb rfl (qz Ci rfl (qa rfl (Ac (wq rfl (DI Ax Da JZ rfl (qf CE rfl (ql A1 rfl ?_))))))))))
 refine Gf h fun c1 h => HC (f := Ap) Ax Ax Da Lt JZ (fun _ => rfl) c1 rfl (DI Ax Da JZ rfl (qf Br rfl (ql A1 rfl ?_)))
 refine Gf h fun c2 h => HC (f := Ap) Ax Ax Da Lt JZ (fun _ => rfl) c2 rfl (DI Dj F3 OY rfl (qf CI rfl (ql Hg rfl ?_)))
 refine Gf h fun c3 h => HC (f := C8) Dj Dj F3 R9 OY (fun _ => rfl) c3 rfl (A9 Ci Hn rfl (qz Ci rfl (qs AF rfl (AK (by kernel_rfl) (wq rfl (qf Fm rfl (ql BW rfl (qe rfl ?_))))))))
 refine AR h (fun v4 => mk [(6, oD (.ptr 6 0)), (8, oD (.ptr 8 0))] [(6, .box [.pure (.nil0), .pure (.nil0), .pure (.nil0)]), (8, .box [.own 2001, .own 2002, .own 2003]), (2001, .vec 1 (v4.1.map Ap)), (2002, .vec 1 (v4.2.1.map Ap)), (2003, .vec 1 (v4.2.2.map C8))]) (fun j4 h => ?_) (fun v4 h => ?_)
 ·refine wq rfl (qf F4 rfl (ql BW rfl (Ac (AL (wq rfl (BX rfl (qe rfl ?_)))))))
  refine Bd h (fun h => ?_) fun h => ?_
  ·refine AN ?_
   refine AR h (fun v6 => mk [(3, oD (.ptr 3 0)), (5, oD (.ptr 5 0)), (6, oD (.ptr 6 0)), (8, oD (.ptr 8 0)), (9, iD p2.fj), (60, bD v6)] [(3, .box (Ag p0)), (5, .box (DD p2)), (6, .box [.pure (.nil0), .pure (.nil0), .pure (.nil0)]), (8, .box [.own 2004, .own 2005, .own 2006]), (2004, .vec 1 (((([] : List Int)) ++ p1.fd).map Ap)), (2005, .vec 1 (((([] : List Int)) ++ p1.fa).map Ap)), (2006, .vec 1 (((([] : List Int)) ++ p1.fe).map C8))]) (fun j6 h => ?_) (fun v6 h => ?_)
   ·refine Ai Az rfl (qf Br rfl (ql A1 rfl (qm rfl ?_)))
    refine BT h fun v7 a7 b7 h => qi Ax Da a7 (Ae b7) rfl (qk BW rfl (ET rfl (qm rfl ?_)))
    refine Ec 51 h rfl (fun h => ?_) fun h => ?_
    ·refine qw 8 rfl (qp rfl (AK (by kernel_rfl) ?_))
     exact sn [(2004, 18), (2005, 22), (2006, 26)] h
    ·refine qf Hi rfl (ql BW rfl (qf CE rfl (ql A1 rfl (qm rfl ?_))))
     refine BT h fun v9 a9 b9 h => qi Ax Da a9 (Ae b9) rfl (qk BW rfl (BX rfl (qp rfl (AK (by kernel_rfl) ?_))))
     exact sn [(2004, 18), (2005, 22), (2006, 26)] h
   ·refine Bd h (fun h => ?_) fun h => ?_
    ·refine wq rfl (A9 Ci Hn rfl (qs AF rfl (qe rfl ?_)))
     obtain rfl := sj h
     refine Af ((As 6 0 2007 1 _ rfl rfl rfl rfl).trans ((As 6 1 2008 1 _ rfl rfl rfl rfl).trans ((As 6 2 2009 1 _ rfl rfl rfl rfl).trans (sm [(1000, 2007), (1001, 2008), (1002, 2009)] [(6, oD (.ptr 6 0)), (7, bD false)] [(6, .box [.own 1000, .own 1001, .own 1002]), (1000, .vec 1 ((([] : List Int)).map Ap)), (1001, .vec 1 ((([] : List Int)).map Ap)), (1002, .vec 1 ((([] : List Int)).map C8))] rfl rfl)))) (Au ?_)
     exact ⟨⟨[_, _], ⟨.cellN _ _ _ _ _ _ _ rfl rfl A0 AF rfl rfl (ID rfl), tm⟩, rfl⟩, ⟨rfl, rfl, rfl, tv⟩⟩
    ·refine Al (wq rfl (qf Br rfl (ql A1 rfl (qm rfl (qf Hi rfl (ql BW rfl ?_))))))
     refine BT h fun v11 a11 b11 h => qI Ax Da a11 (Ae b11) rfl ?_
     refine EH rfl rfl rfl rfl (Ae b11) rfl Da rfl (Ig rfl) (Ej Ap ((([] : List Int)) ++ p1.fa) _ p2.fp) ?_
     refine Ac (wq rfl (qe rfl ?_))
     refine AH (L := B7 N p0 p2) h (fun v12 => mk [(3, oD (.ptr 3 0)), (5, oD (.ptr 5 0)), (6, oD (.ptr 6 0)), (8, oD (.ptr 8 0)), (9, iD p2.fj), (10, iD v12.2)] [(3, .box (Ag p0)), (5, .box (DD p2)), (6, .box [.pure (.nil0), .pure (.nil0), .pure (.nil0)]), (8, .box [.own 2010, .own 2011, .own 2012]), (2010, .vec 1 (((([] : List Int)) ++ p1.fd).map Ap)), (2011, .vec 1 ((((([] : List Int)) ++ p1.fa).set ((p2.fj).toNat) p2.fp).map Ap)), (2012, .vec 1 (v12.1.map C8))]) (fun v13 => mk [(6, oD (.ptr 6 0)), (8, oD (.ptr 8 0))] [(6, .box [.pure (.nil0), .pure (.nil0), .pure (.nil0)]), (8, .box [.own 2013, .own 2014, .own 2015]), (2013, .vec 1 (((([] : List Int)) ++ p1.fd).map Ap)), (2014, .vec 1 ((((([] : List Int)) ++ p1.fa).set ((p2.fj).toNat) p2.fp).map Ap)), (2015, .vec 1 (v13.map C8))]) (fun _ _ => rfl) (sm [(2010, 2004), (2011, 2005), (2012, 2006)] _ _ rfl rfl) (fun j12 n12 v12 h => ?_) (fun v13 s h hs => ?_)
     ·unfold B7 at h
      refine wp rfl (qm rfl (qf BU rfl (ql Gi rfl (AJ Dc rfl (AT rfl (Ac ?_))))))
      refine Bd h (fun h => ?_) fun h => ?_
      ·refine Al ?_
       refine AR h (fun v15 => mk [(3, oD (.ptr 3 0)), (5, oD (.ptr 5 0)), (6, oD (.ptr 6 0)), (8, oD (.ptr 8 0)), (9, iD p2.fj), (10, iD v12.2)] [(3, .box (Ag p0)), (5, .box (DD p2)), (6, .box [.pure (.nil0), .pure (.nil0), .pure (.nil0)]), (8, .box [.own 2016, .own 2017, .own 2018]), (2016, .vec 1 (((([] : List Int)) ++ p1.fd).map Ap)), (2017, .vec 1 ((((([] : List Int)) ++ p1.fa).set ((p2.fj).toNat) p2.fp).map Ap)), (2018, .vec 1 (v15.map C8))]) (fun j15 h => ?_) (fun v15 h => ?_)
       ·refine AL ?_
        refine AR h (fun v16 => mk [(3, oD (.ptr 3 0)), (5, oD (.ptr 5 0)), (6, oD (.ptr 6 0)), (8, oD (.ptr 8 0)), (9, iD p2.fj), (10, iD v12.2), (90, bD v16)] [(3, .box (Ag p0)), (5, .box (DD p2)), (6, .box [.pure (.nil0), .pure (.nil0), .pure (.nil0)]), (8, .box [.own 2019, .own 2020, .own 2021]), (2019, .vec 1 (((([] : List Int)) ++ p1.fd).map Ap)), (2020, .vec 1 ((((([] : List Int)) ++ p1.fa).set ((p2.fj).toNat) p2.fp).map Ap)), (2021, .vec 1 (v12.1.map C8))]) (fun j16 h => ?_) (fun v16 h => ?_)
        ·refine Ai Az rfl (qf BU rfl (ql Gi rfl (qm rfl ?_)))
         refine BT h fun v17 a17 b17 h => qi Dc DR a17 (Ae b17) rfl (qg Dk rfl (qk BW rfl (qm rfl (BX rfl (qm rfl ?_)))))
         refine Ec 83 h rfl (fun h => ?_) fun h => ?_
         ·refine qf BU rfl (ql Gi rfl (qm rfl ?_))
          refine BT h fun v19 a19 b19 h => qi Dc DR a19 (Ae b19) rfl (qK HT DR rfl ?_)
          refine BY h fun v20 a20 h => Ay [] (Cu N v19 v20 a20) Rg rfl (qp rfl (Ac ?_))
          exact sn [(2019, 2010), (2020, 2011), (2021, 2012)] h
         ·refine qw 6 rfl (qp rfl (Ac ?_))
          exact sn [(2019, 2010), (2020, 2011), (2021, 2012)] h
        ·refine Bd h (fun h => ?_) fun h => ?_
         ·refine Ai Az rfl (qf CI rfl (ql Hg rfl (qm rfl (qf CI rfl (ql Hg rfl (qm rfl ?_))))))
          refine BT h fun v22 a22 b22 h => qI Dj F3 a22 (Ae b22) rfl (qj Kc (Ae b22) rfl (qf Hi rfl (ql BW rfl ?_)))
          refine Gf h fun c23 h => Jq rfl c23 (WB rfl ?_)
          refine BT h fun v24 a24 b24 h => qI Dj F3 a24 (Ae b24) rfl ?_
          refine EH rfl rfl rfl rfl (Ae b24) rfl F3 rfl (Ig rfl) (Ej C8 v12.1 _ ((Pw .u8 v22 ((Ee .u8 1 p2.fp))))) ?_
          refine AK (by kernel_rfl) ?_
          exact sn [(2016, 2019), (2017, 2020), (2018, 2021)] h
         ·refine Al ?_
          exact sn [(2016, 2019), (2017, 2020), (2018, 2021)] h
       ·refine Ai Az rfl (qm rfl (AZ rfl (qe rfl ?_)))
        exact sn [(2010, 2016), (2011, 2017), (2012, 2018)] h
      ·refine AS ?_
       exact sn [(2013, 2010), (2014, 2011), (2015, 2012)] h
     ·exact SF _ h (hs.trans (sm [(2001, 2013), (2002, 2014), (2003, 2015)] _ _ rfl rfl))
  ·refine wq rfl (BX rfl (qe rfl ?_))
   refine Bd h (fun h => ?_) fun h => ?_
   ·refine wp rfl (qf Br rfl (ql A1 rfl (qm rfl ?_)))
    refine BT h fun v26 a26 b26 h => qi Ax Da a26 (Ae b26) rfl (qk BW rfl (AT rfl (Ac ?_)))
    refine Bd h (fun h => ?_) fun h => ?_
    ·refine wq rfl (A9 Ci Hn rfl (qs AF rfl (qe rfl ?_)))
     obtain rfl := sj h
     refine Af ((As 6 0 2022 1 _ rfl rfl rfl rfl).trans ((As 6 1 2023 1 _ rfl rfl rfl rfl).trans ((As 6 2 2024 1 _ rfl rfl rfl rfl).trans (sm [(1000, 2022), (1001, 2023), (1002, 2024)] [(6, oD (.ptr 6 0)), (7, bD false)] [(6, .box [.own 1000, .own 1001, .own 1002]), (1000, .vec 1 ((([] : List Int)).map Ap)), (1001, .vec 1 ((([] : List Int)).map Ap)), (1002, .vec 1 ((([] : List Int)).map C8))] rfl rfl)))) (Au ?_)
     exact ⟨⟨[_, _], ⟨.cellN _ _ _ _ _ _ _ rfl rfl A0 AF rfl rfl (ID rfl), tm⟩, rfl⟩, ⟨rfl, rfl, rfl, tv⟩⟩
    ·refine Al (Ai Az rfl (qf CE rfl (ql A1 rfl (qm rfl (qf Br rfl (ql A1 rfl (qm rfl (qf Br rfl (ql A1 rfl (qm rfl ?_))))))))))
     refine BT h fun v28 a28 b28 h => qi Ax Da a28 (Ae b28) rfl (qk BW rfl ?_)
     refine BT h fun v29 a29 b29 h => qI Ax Da a29 (Ae b29) rfl ?_
     refine EH rfl rfl rfl rfl (Ae b29) rfl Da rfl (Ig rfl) (Ej Ap ((([] : List Int)) ++ p1.fd) _ v28) ?_
     refine BT h fun v30 a30 b30 h => qI Ax Da a30 (Ae b30) rfl ?_
     refine EH rfl rfl rfl rfl (Ae b30) rfl Da rfl (Ig rfl) (Ej Ap ((([] : List Int)) ++ p1.fa) _ ((-1))) ?_
     refine AK (by kernel_rfl) ?_
     exact sn [(2001, 18), (2002, 22), (2003, 26)] h
   ·refine wq rfl (BX rfl (qe rfl ?_))
    refine Bd h (fun h => ?_) fun h => ?_
    ·refine wq rfl (qf BU rfl (ql Gi rfl (qm rfl ?_)))
     refine BT h fun v32 a32 b32 h => qi Dc DR a32 (Ae b32) rfl (qK HT DR rfl (qz Kb rfl (qs DR rfl (Ac (wp rfl (qL HT DR rfl ?_))))))
     refine BY h fun v33 a33 h => Ay [] (Cu N v32 v33 a33) Rg rfl (CF rfl (Ac ?_))
     refine Bd h (fun h => ?_) fun h => ?_
     ·refine wq rfl (A9 Ci Hn rfl (qs AF rfl (qe rfl ?_)))
      obtain rfl := sj h
      refine Af ((As 6 0 2025 1 _ rfl rfl rfl rfl).trans ((As 6 1 2026 1 _ rfl rfl rfl rfl).trans ((As 6 2 2027 1 _ rfl rfl rfl rfl).trans (sm [(1000, 2025), (1001, 2026), (1002, 2027)] [(6, oD (.ptr 6 0)), (7, bD false)] [(6, .box [.own 1000, .own 1001, .own 1002]), (1000, .vec 1 ((([] : List Int)).map Ap)), (1001, .vec 1 ((([] : List Int)).map Ap)), (1002, .vec 1 ((([] : List Int)).map C8))] rfl rfl)))) (Au ?_)
      exact ⟨⟨[_, _], ⟨.cellN _ _ _ _ _ _ _ rfl rfl A0 AF rfl rfl (ID rfl), tm⟩, rfl⟩, ⟨rfl, rfl, rfl, tv⟩⟩
     ·refine Al (wq rfl (qL A0 AF rfl (qf Dk rfl (ql BW rfl ?_))))
      refine BY h fun v35 a35 h => Ay [] (Ex N p1 v32.fg v35 a35) WE rfl (qa rfl (Ac (wp rfl (qf CI rfl (ql Hg rfl (qm rfl ?_))))))
      refine BT h fun v36 a36 b36 h => qi Dj F3 a36 (Ae b36) rfl (qk Kc rfl (qm rfl (BX rfl (Ac ?_))))
      refine Bd h (fun h => ?_) fun h => ?_
      ·refine wq rfl (A9 Ci Hn rfl (qs AF rfl (qe rfl ?_)))
       obtain rfl := sj h
       refine Af ((As 6 0 2028 1 _ rfl rfl rfl rfl).trans ((As 6 1 2029 1 _ rfl rfl rfl rfl).trans ((As 6 2 2030 1 _ rfl rfl rfl rfl).trans (sm [(1000, 2028), (1001, 2029), (1002, 2030)] [(6, oD (.ptr 6 0)), (7, bD false)] [(6, .box [.own 1000, .own 1001, .own 1002]), (1000, .vec 1 ((([] : List Int)).map Ap)), (1001, .vec 1 ((([] : List Int)).map Ap)), (1002, .vec 1 ((([] : List Int)).map C8))] rfl rfl)))) (Au ?_)
       exact ⟨⟨[_, _], ⟨.cellN _ _ _ _ _ _ _ rfl rfl A0 AF rfl rfl (ID rfl), tm⟩, rfl⟩, ⟨rfl, rfl, rfl, tv⟩⟩
      ·refine Al (wp rfl (qe rfl ?_))
       refine AH (L := BO N p0 p1 p2 v32 v35) h (fun v38 => mk [(3, oD (.ptr 3 0)), (4, oD (.ptr 4 0)), (6, oD (.ptr 6 0)), (8, oD (.ptr 8 0)), (9, iD p2.fj), (11, oD (.ptr 11 0)), (12, pD (.val (.int .u8 v35))), (13, iD v38)] [(3, .box (Ag p0)), (4, .box (AB p1)), (6, .box [.pure (.nil0), .pure (.nil0), .pure (.nil0)]), (8, .box [.own 2031, .own 2032, .own 2033]), (11, .box (Be v32)), (2031, .vec 1 (((([] : List Int)) ++ p1.fd).map Ap)), (2032, .vec 1 (((([] : List Int)) ++ p1.fa).map Ap)), (2033, .vec 1 (((([] : List Int)) ++ p1.fe).map C8))]) (fun v39 => mk [(6, oD (.ptr 6 0)), (8, oD (.ptr 8 0)), (9, iD p2.fj), (12, pD (.val (.int .u8 v35)))] [(6, .box [.pure (.nil0), .pure (.nil0), .pure (.nil0)]), (8, .box [.own 2034, .own 2035, .own 2036]), (2034, .vec 1 (((([] : List Int)) ++ p1.fd).map Ap)), (2035, .vec 1 (((([] : List Int)) ++ p1.fa).map Ap)), (2036, .vec 1 (((([] : List Int)) ++ p1.fe).map C8))]) (fun _ _ => rfl) (sm [(2031, 18), (2032, 22), (2033, 26)] _ _ rfl rfl) (fun j38 n38 v38 h => ?_) (fun v39 s h hs => ?_)
       ·unfold BO at h
        refine wp rfl (qm rfl (qf Bv rfl (ql A1 rfl (qf Dk rfl (ql BW rfl ?_)))))
        refine BT h fun v40 a40 b40 h => qi Ax Da a40 (Ae b40) rfl (qk BW rfl (AT rfl (Ac ?_)))
        refine Bd h (fun h => ?_) fun h => ?_
        ·refine Al (AN (AL ?_))
         refine AR h (fun v42 => mk [(3, oD (.ptr 3 0)), (4, oD (.ptr 4 0)), (6, oD (.ptr 6 0)), (8, oD (.ptr 8 0)), (9, iD p2.fj), (11, oD (.ptr 11 0)), (12, pD (.val (.int .u8 v35))), (13, iD v38), (14, bD v42)] [(3, .box (Ag p0)), (4, .box (AB p1)), (6, .box [.pure (.nil0), .pure (.nil0), .pure (.nil0)]), (8, .box [.own 2037, .own 2038, .own 2039]), (11, .box (Be v32)), (2037, .vec 1 (((([] : List Int)) ++ p1.fd).map Ap)), (2038, .vec 1 (((([] : List Int)) ++ p1.fa).map Ap)), (2039, .vec 1 (((([] : List Int)) ++ p1.fe).map C8))]) (fun j42 h => ?_) (fun v42 h => ?_)
         ·refine Ai Az rfl (qf CI rfl (ql Hg rfl (qm rfl ?_)))
          refine BT h fun v43 a43 b43 h => qi Dj F3 a43 (Ae b43) rfl (qk Kc rfl (qm rfl ?_))
          refine BY h fun v44 a44 h => Ay [] (Gu N v43 v38 v44 a44) T9 rfl (qm rfl ?_)
          refine Ec 166 h rfl (fun h => ?_) fun h => ?_
          ·refine qw 2 rfl ?_
           refine BY h fun v46 a46 h => Ay [] (Gu N v35 v38 v46 a46) T9 rfl (CF rfl (qp rfl (qe rfl ?_)))
           exact sn [(2037, 2031), (2038, 2032), (2039, 2033)] h
          ·refine qw 4 rfl (qp rfl (qe rfl ?_))
           exact sn [(2037, 2031), (2038, 2032), (2039, 2033)] h
         ·refine AR h (fun v47 => mk [(3, oD (.ptr 3 0)), (4, oD (.ptr 4 0)), (6, oD (.ptr 6 0)), (8, oD (.ptr 8 0)), (9, iD p2.fj), (11, oD (.ptr 11 0)), (12, pD (.val (.int .u8 v35))), (13, iD v38), (193, bD v47)] [(3, .box (Ag p0)), (4, .box (AB p1)), (6, .box [.pure (.nil0), .pure (.nil0), .pure (.nil0)]), (8, .box [.own 2040, .own 2041, .own 2042]), (11, .box (Be v32)), (2040, .vec 1 (((([] : List Int)) ++ p1.fd).map Ap)), (2041, .vec 1 (((([] : List Int)) ++ p1.fa).map Ap)), (2042, .vec 1 (((([] : List Int)) ++ p1.fe).map C8))]) (fun j47 h => ?_) (fun v47 h => ?_)
          ·refine Ai Az rfl (qw 2 rfl ?_)
           refine Ec 173 h rfl (fun h => ?_) fun h => ?_
           ·refine qf F8 rfl (ql BW rfl (BX rfl (qp rfl (qm rfl ?_))))
            refine Ec 178 h rfl (fun h => ?_) fun h => ?_
            ·refine qf GI rfl (ql Jl rfl (qm rfl ?_))
             refine BT h fun v50 a50 b50 h => qi Fo La a50 (Ae b50) rfl (qk Od rfl (qf CE rfl (ql A1 rfl (qf Dk rfl (ql BW rfl ?_)))))
             refine BT h fun v51 a51 b51 h => qi Ax Da a51 (Ae b51) rfl (qk BW rfl ?_)
             refine BT h fun v52 a52 b52 h => qi FZ PQ a52 (Ae b52) rfl (qk Td rfl (CF rfl (qp rfl (AK (by kernel_rfl) ?_))))
             exact sn [(2040, 2037), (2041, 2038), (2042, 2039)] h
            ·refine qw 14 rfl (qp rfl (AK (by kernel_rfl) ?_))
             exact sn [(2040, 2037), (2041, 2038), (2042, 2039)] h
           ·refine qw 3 rfl (qp rfl (qw 15 rfl (qp rfl (AK (by kernel_rfl) ?_))))
            exact sn [(2040, 2037), (2041, 2038), (2042, 2039)] h
          ·refine Bd h (fun h => ?_) fun h => ?_
           ·refine wq rfl (A9 Ci Hn rfl (qs AF rfl (qe rfl ?_)))
            obtain rfl := sj h
            refine Af ((As 6 0 2043 1 _ rfl rfl rfl rfl).trans ((As 6 1 2044 1 _ rfl rfl rfl rfl).trans ((As 6 2 2045 1 _ rfl rfl rfl rfl).trans (sm [(1000, 2043), (1001, 2044), (1002, 2045)] [(6, oD (.ptr 6 0)), (7, bD false)] [(6, .box [.own 1000, .own 1001, .own 1002]), (1000, .vec 1 ((([] : List Int)).map Ap)), (1001, .vec 1 ((([] : List Int)).map Ap)), (1002, .vec 1 ((([] : List Int)).map C8))] rfl rfl)))) (Au ?_)
            exact ⟨⟨[_, _], ⟨.cellN _ _ _ _ _ _ _ rfl rfl A0 AF rfl rfl (ID rfl), tm⟩, rfl⟩, ⟨rfl, rfl, rfl, tv⟩⟩
           ·refine Al (Ai Az rfl (qm rfl (AZ rfl (qe rfl ?_))))
            exact sn [(2031, 2040), (2032, 2041), (2033, 2042)] h
        ·refine AS ?_
         exact sn [(2034, 2031), (2035, 2032), (2036, 2033)] h
       ·refine Af hs (Ai Az rfl (qf CI rfl (ql Hg rfl (qw 2 rfl ?_))))
        refine BT h fun v54 a54 b54 h => qI Dj F3 a54 (Ae b54) rfl ?_
        refine EH rfl rfl rfl rfl (Ae b54) rfl F3 rfl (Ig rfl) (Ej C8 ((([] : List Int)) ++ p1.fe) _ v35) ?_
        refine Ac ?_
        exact sn [(2001, 2034), (2002, 2035), (2003, 2036)] h
    ·refine wp rfl (qf Br rfl (ql A1 rfl (qm rfl ?_)))
     refine BT h fun v55 a55 b55 h => qi Ax Da a55 (Ae b55) rfl (qk BW rfl (AT rfl (Ac ?_)))
     refine Bd h (fun h => ?_) fun h => ?_
     ·refine wq rfl (A9 Ci Hn rfl (qs AF rfl (qe rfl ?_)))
      obtain rfl := sj h
      refine Af ((As 6 0 2046 1 _ rfl rfl rfl rfl).trans ((As 6 1 2047 1 _ rfl rfl rfl rfl).trans ((As 6 2 2048 1 _ rfl rfl rfl rfl).trans (sm [(1000, 2046), (1001, 2047), (1002, 2048)] [(6, oD (.ptr 6 0)), (7, bD false)] [(6, .box [.own 1000, .own 1001, .own 1002]), (1000, .vec 1 ((([] : List Int)).map Ap)), (1001, .vec 1 ((([] : List Int)).map Ap)), (1002, .vec 1 ((([] : List Int)).map C8))] rfl rfl)))) (Au ?_)
      exact ⟨⟨[_, _], ⟨.cellN _ _ _ _ _ _ _ rfl rfl A0 AF rfl rfl (ID rfl), tm⟩, rfl⟩, ⟨rfl, rfl, rfl, tv⟩⟩
     ·refine Al (Ai Az rfl (qf Br rfl (ql A1 rfl (qm rfl ?_))))
      refine BT h fun v57 a57 b57 h => qI Ax Da a57 (Ae b57) rfl ?_
      refine EH rfl rfl rfl rfl (Ae b57) rfl Da rfl (Ig rfl) (Ej Ap ((([] : List Int)) ++ p1.fa) _ ((-1))) ?_
      refine Ac ?_
      exact sn [(2001, 18), (2002, 22), (2003, 26)] h
 ·refine wq rfl (qL A0 AF rfl (qs AF rfl (qe rfl ?_)))
  obtain rfl := sj h
  refine Af (sm [(1000, 2001), (1001, 2002), (1002, 2003)] [(6, oD (.ptr 6 0)), (7, bD true)] [(6, .box [.own 1000, .own 1001, .own 1002]), (1000, .vec 1 (v4.1.map Ap)), (1001, .vec 1 (v4.2.1.map Ap)), (1002, .vec 1 (v4.2.2.map C8))] rfl rfl) (Au ?_)
  exact ⟨⟨[_, _], ⟨.cellN _ _ _ _ _ _ _ rfl rfl A0 AF rfl rfl (ID rfl), tm⟩, rfl⟩, ⟨rfl, rfl, rfl, tv⟩⟩
theorem Ls (N : Nat) (p0 : Aa) (p1 : Ab) (p2 : Ah) (r : Ab × Int) (h : EN N p0 p1 p2 = some r) : Av zA0 113 [.e (.agg (Ag p0)), .e (.agg (AB p1)), .e (.agg (DD p2))] [(1, r.1.fd.map Ap), (1, r.1.fa.map Ap), (1, r.1.fe.map C8)] (.tup [.agg [.own 0, .own 1, .own 2], .one (iC r.2)]) := by
 unfold EN at h
 refine cw (n := 73) (rs := [.cell 6 46, .tmp 7]) Tryz.func113 fun w0 S0 => ?_
 refine wq rfl (qb rfl (qb rfl (qb rfl (qz Ci rfl (qa rfl (Ac (wp rfl (qL C0 Cx rfl (qL A0 AF rfl ?_)))))))))
 refine BY h fun v1 a1 h => Ay [] (Iz N p0 p1 v1 a1) bd rfl (qa rfl (Ac (wq rfl (qm rfl (BZ rfl (Ac ?_))))))
 refine Bd h (fun h => ?_) fun h => ?_
 ·refine wq rfl (A9 Ci Hn rfl (qm rfl (qs AF rfl (qe rfl ?_))))
  obtain rfl := sj h
  refine Af ((As 6 0 2001 1 _ rfl rfl rfl rfl).trans ((As 6 1 2002 1 _ rfl rfl rfl rfl).trans ((As 6 2 2003 1 _ rfl rfl rfl rfl).trans (sm [(1000, 2001), (1001, 2002), (1002, 2003)] [(6, oD (.ptr 6 0)), (7, iD v1)] [(6, .box [.own 1000, .own 1001, .own 1002]), (1000, .vec 1 ((([] : List Int)).map Ap)), (1001, .vec 1 ((([] : List Int)).map Ap)), (1002, .vec 1 ((([] : List Int)).map C8))] rfl rfl)))) (Au ?_)
  exact ⟨⟨[_, _], ⟨.cellN _ _ _ _ _ _ _ rfl rfl A0 AF rfl rfl (ID rfl), tm⟩, rfl⟩, ⟨rfl, rfl, rfl, tv⟩⟩
 ·refine Al (wp rfl (qL IJ E8 rfl ?_))
  refine BY h fun v3 a3 h => Ay [] (LA N p2 v3 a3) bn rfl (CF rfl (Ac ?_))
  refine Bd h (fun h => ?_) fun h => ?_
  ·refine wq rfl (A9 Ci Hn rfl (qs AF rfl (qe rfl ?_)))
   obtain rfl := sj h
   refine Af ((As 6 0 2004 1 _ rfl rfl rfl rfl).trans ((As 6 1 2005 1 _ rfl rfl rfl rfl).trans ((As 6 2 2006 1 _ rfl rfl rfl rfl).trans (sm [(1000, 2004), (1001, 2005), (1002, 2006)] [(6, oD (.ptr 6 0)), (7, iD 1)] [(6, .box [.own 1000, .own 1001, .own 1002]), (1000, .vec 1 ((([] : List Int)).map Ap)), (1001, .vec 1 ((([] : List Int)).map Ap)), (1002, .vec 1 ((([] : List Int)).map C8))] rfl rfl)))) (Au ?_)
   exact ⟨⟨[_, _], ⟨.cellN _ _ _ _ _ _ _ rfl rfl A0 AF rfl rfl (ID rfl), tm⟩, rfl⟩, ⟨rfl, rfl, rfl, tv⟩⟩
  ·refine Al (AN ?_)
   refine AR h (fun v5 => mk [(3, oD (.ptr 3 0)), (4, oD (.ptr 4 0)), (5, oD (.ptr 5 0)), (6, oD (.ptr 6 0)), (45, bD v5)] [(3, .box (Ag p0)), (4, .box (AB p1)), (5, .box (DD p2)), (6, .box [.pure (.nil0), .pure (.nil0), .pure (.nil0)])]) (fun j5 h => ?_) (fun v5 h => ?_)
   ·refine Ai Az rfl (qf F4 rfl (ql BW rfl (BX rfl (qm rfl ?_))))
    refine Ec 25 h rfl (fun h => ?_) fun h => ?_
    ·refine qf Fm rfl (ql BW rfl (qf BU rfl (ql Gi rfl (AJ Dc rfl (ET rfl (qp rfl (qm rfl ?_)))))))
     refine Ec 33 h rfl (fun h => ?_) fun h => ?_
     ·refine qw 4 rfl (qu rfl (qu rfl (qu rfl (qu rfl (qu rfl (qu rfl (qn rfl (qp rfl (Ac ?_)))))))))
      exact sn [] h
     ·refine qf F4 rfl (ql BW rfl (BZ rfl (qm rfl ?_)))
      refine Ec 37 h rfl (fun h => ?_) fun h => ?_
      ·refine qf Fm rfl (ql BW rfl (qf Bv rfl (ql A1 rfl (AJ Ax rfl (ET rfl (qp rfl (qp rfl (Ac ?_))))))))
       exact sn [] h
      ·refine qw 6 rfl (qp rfl (qp rfl (Ac ?_)))
       exact sn [] h
    ·refine qw 6 rfl (qp rfl (qm rfl (qf F4 rfl (ql BW rfl (BZ rfl (qm rfl ?_))))))
     refine Ec 37 h rfl (fun h => ?_) fun h => ?_
     ·refine qf Fm rfl (ql BW rfl (qf Bv rfl (ql A1 rfl (AJ Ax rfl (ET rfl (qp rfl (qp rfl (Ac ?_))))))))
      exact sn [] h
     ·refine qw 6 rfl (qp rfl (qp rfl (Ac ?_)))
      exact sn [] h
   ·refine Bd h (fun h => ?_) fun h => ?_
    ·refine wq rfl (A9 Ci Hn rfl (qs AF rfl (qe rfl ?_)))
     obtain rfl := sj h
     refine Af ((As 6 0 2007 1 _ rfl rfl rfl rfl).trans ((As 6 1 2008 1 _ rfl rfl rfl rfl).trans ((As 6 2 2009 1 _ rfl rfl rfl rfl).trans (sm [(1000, 2007), (1001, 2008), (1002, 2009)] [(6, oD (.ptr 6 0)), (7, iD 4)] [(6, .box [.own 1000, .own 1001, .own 1002]), (1000, .vec 1 ((([] : List Int)).map Ap)), (1001, .vec 1 ((([] : List Int)).map Ap)), (1002, .vec 1 ((([] : List Int)).map C8))] rfl rfl)))) (Au ?_)
     exact ⟨⟨[_, _], ⟨.cellN _ _ _ _ _ _ _ rfl rfl A0 AF rfl rfl (ID rfl), tm⟩, rfl⟩, ⟨rfl, rfl, rfl, tv⟩⟩
    ·refine Al (AN ?_)
     refine AR h (fun v11 => mk [(3, oD (.ptr 3 0)), (4, oD (.ptr 4 0)), (5, oD (.ptr 5 0)), (6, oD (.ptr 6 0)), (60, bD v11)] [(3, .box (Ag p0)), (4, .box (AB p1)), (5, .box (DD p2)), (6, .box [.pure (.nil0), .pure (.nil0), .pure (.nil0)])]) (fun j11 h => ?_) (fun v11 h => ?_)
     ·refine Ai Az rfl (qf F4 rfl (ql BW rfl (BX rfl (qm rfl ?_))))
      refine Ec 50 h rfl (fun h => ?_) fun h => ?_
      ·refine qf Hi rfl (ql BW rfl (qf Bv rfl (ql A1 rfl (qf Fm rfl (ql BW rfl ?_)))))
       refine BT h fun v13 a13 b13 h => qi Ax Da a13 (Ae b13) rfl (qk BW rfl (ET rfl (qp rfl (AK (by kernel_rfl) ?_))))
       exact sn [] h
      ·refine qw 9 rfl (qp rfl (AK (by kernel_rfl) ?_))
       exact sn [] h
     ·refine Bd h (fun h => ?_) fun h => ?_
      ·refine wq rfl (A9 Ci Hn rfl (qs AF rfl (qe rfl ?_)))
       obtain rfl := sj h
       refine Af ((As 6 0 2010 1 _ rfl rfl rfl rfl).trans ((As 6 1 2011 1 _ rfl rfl rfl rfl).trans ((As 6 2 2012 1 _ rfl rfl rfl rfl).trans (sm [(1000, 2010), (1001, 2011), (1002, 2012)] [(6, oD (.ptr 6 0)), (7, iD 4)] [(6, .box [.own 1000, .own 1001, .own 1002]), (1000, .vec 1 ((([] : List Int)).map Ap)), (1001, .vec 1 ((([] : List Int)).map Ap)), (1002, .vec 1 ((([] : List Int)).map C8))] rfl rfl)))) (Au ?_)
       exact ⟨⟨[_, _], ⟨.cellN _ _ _ _ _ _ _ rfl rfl A0 AF rfl rfl (ID rfl), tm⟩, rfl⟩, ⟨rfl, rfl, rfl, tv⟩⟩
      ·refine Al (wq rfl (qL C0 Cx rfl (qL A0 AF rfl (qL IJ E8 rfl ?_))))
       refine BY h fun v15 a15 h => Ay [2013, 2014, 2015] (IC N p0 p1 p2 v15 a15) Z5 rfl (qm rfl (qx rfl (qx rfl (qz Ci rfl (qs AF rfl (qa rfl (Ac (wp rfl (qm rfl (CF rfl (Ac ?_)))))))))))
       refine Bd h (fun h => ?_) fun h => ?_
       ·refine wq rfl (A9 Ci Hn rfl (qs AF rfl (qe rfl ?_)))
        obtain rfl := sj h
        refine Af ((As 6 0 2016 1 _ rfl rfl rfl rfl).trans ((As 6 1 2017 1 _ rfl rfl rfl rfl).trans ((As 6 2 2018 1 _ rfl rfl rfl rfl).trans (sm [(1000, 2016), (1001, 2017), (1002, 2018)] [(6, oD (.ptr 6 0)), (7, iD 11)] [(6, .box [.own 1000, .own 1001, .own 1002]), (1000, .vec 1 ((([] : List Int)).map Ap)), (1001, .vec 1 ((([] : List Int)).map Ap)), (1002, .vec 1 ((([] : List Int)).map C8))] rfl rfl)))) (Au ?_)
        exact ⟨⟨[_, _], ⟨.cellN _ _ _ _ _ _ _ rfl rfl A0 AF rfl rfl (ID rfl), tm⟩, rfl⟩, ⟨rfl, rfl, rfl, tv⟩⟩
       ·refine Al (wq rfl (qL A0 AF rfl (qs AF rfl (qe rfl ?_))))
        obtain rfl := sj h
        refine Af (sm [(1000, 2013), (1001, 2014), (1002, 2015)] [(6, oD (.ptr 6 0)), (7, iD 0)] [(6, .box [.own 1000, .own 1001, .own 1002]), (1000, .vec 1 (v15.1.fd.map Ap)), (1001, .vec 1 (v15.1.fa.map Ap)), (1002, .vec 1 (v15.1.fe.map C8))] rfl rfl) (Au ?_)
        exact ⟨⟨[_, _], ⟨.cellN _ _ _ _ _ _ _ rfl rfl A0 AF rfl rfl (ID rfl), tm⟩, rfl⟩, ⟨rfl, rfl, rfl, tv⟩⟩
theorem Lx (N : Nat) (p0 : Aa) (p1 : Ab) (r : (List Ah)) (h : EO N p0 p1 = some r) : Av zA0 72 [.e (.agg (Ag p0)), .e (.agg (AB p1))] [(3, r.map AM)] (oD (.own 0)) := by
 unfold EO at h
 refine cw (n := 49) (rs := [.tmp 4]) Tryz.func72 fun w0 S0 => ?_
 refine wq rfl (qb rfl (qb rfl (qa rfl (Ac (wq rfl (qa rfl (Ac (wp rfl (qe rfl ?_)))))))))
 refine AH (L := BA N p0 p1) h (fun v1 => mk [(2, oD (.ptr 2 0)), (3, oD (.ptr 3 0)), (5, oD (.own 2001)), (6, iD v1.2)] [(2, .box (Ag p0)), (3, .box (AB p1)), (2001, .vec 3 (v1.1.map AM))]) (fun v2 => mk [(5, oD (.own 2002))] [(2002, .vec 3 (v2.map AM))]) (fun _ _ => rfl) ((Ba 5 2011 3 rfl rfl rfl).trans (sm [(2001, 2011)] _ _ rfl rfl)) (fun j1 n1 v1 h => ?_) (fun v2 s h hs => ?_)
 ·unfold BA at h
  refine wp rfl (qm rfl (Yv rfl (Ac ?_)))
  refine Bd h (fun h => ?_) fun h => ?_
  ·refine Al (AN (AL (wq rfl (qe rfl ?_))))
   refine AH (L := Cm N p0 p1 v1) h (fun v4 => mk [(2, oD (.ptr 2 0)), (3, oD (.ptr 3 0)), (5, oD (.own 2003)), (6, iD v1.2), (7, iD v4.2)] [(2, .box (Ag p0)), (3, .box (AB p1)), (2003, .vec 3 (v4.1.map AM))]) (fun v5 => mk [(2, oD (.ptr 2 0)), (3, oD (.ptr 3 0)), (5, oD (.own 2004)), (6, iD v1.2)] [(2, .box (Ag p0)), (3, .box (AB p1)), (2004, .vec 3 (v5.map AM))]) (fun _ _ => rfl) (sm [(2003, 2001)] _ _ rfl rfl) (fun j4 n4 v4 h => ?_) (fun v5 s h hs => ?_)
   ·unfold Cm at h
    refine wp rfl (qm rfl (qf Bv rfl (ql A1 rfl (AJ Ax rfl (qf BU rfl (ql Gi rfl (AJ Dc rfl ?_)))))))
    refine bI (.p rfl) rfl rfl ?_
    refine AT rfl (Ac ?_)
    refine Bd h (fun h => ?_) fun h => ?_
    ·refine Al (AN (AL (wq rfl (qe rfl ?_))))
     refine AH (L := Ck N p0 p1 v1 v4) h (fun v7 => mk [(2, oD (.ptr 2 0)), (3, oD (.ptr 3 0)), (5, oD (.own 2005)), (6, iD v1.2), (7, iD v4.2), (8, iD v7.2)] [(2, .box (Ag p0)), (3, .box (AB p1)), (2005, .vec 3 (v7.1.map AM))]) (fun v8 => mk [(2, oD (.ptr 2 0)), (3, oD (.ptr 3 0)), (5, oD (.own 2006)), (6, iD v1.2), (7, iD v4.2)] [(2, .box (Ag p0)), (3, .box (AB p1)), (2006, .vec 3 (v8.map AM))]) (fun _ _ => rfl) (sm [(2005, 2003)] _ _ rfl rfl) (fun j7 n7 v7 h => ?_) (fun v8 s h hs => ?_)
     ·unfold Ck at h
      refine wp rfl (qm rfl (AT rfl (Ac ?_)))
      refine Bd h (fun h => ?_) fun h => ?_
      ·refine Al ?_
       refine AR h (fun v10 => mk [(2, oD (.ptr 2 0)), (3, oD (.ptr 3 0)), (5, oD (.own 2007)), (6, iD v1.2), (7, iD v4.2), (8, iD v7.2)] [(2, .box (Ag p0)), (3, .box (AB p1)), (2007, .vec 3 (v10.map AM))]) (fun j10 h => ?_) (fun v10 h => ?_)
       ·refine AL (wq rfl (qw 3 rfl (A9 JE Wd rfl (qz JE rfl (qs E8 rfl (Ac (wq rfl (qL C0 Cx rfl (qL A0 AF rfl (qL IJ E8 rfl ?_))))))))))
        refine BY h fun v11 a11 h => Ay [2008, 2009, 2010] (Ls N p0 p1 ((Ah.mk v1.2 v4.2 v7.2)) v11 a11) aR rfl (qm rfl (qx rfl (qx rfl (qz Ci rfl (qs AF rfl (qa rfl (Ac (wq rfl (qm rfl (BX rfl (Ac ?_)))))))))))
        refine Bd h (fun h => ?_) fun h => ?_
        ·refine Ai Az rfl (qm rfl (qL IJ E8 rfl (DI Fj E8 JE rfl ?_)))
         refine Gf h fun c13 h => DH (f := AM) Fj Fj E8 SO JE c13 rfl (qe rfl ?_)
         exact sn [(2007, 47)] h
        ·refine Al ?_
         exact sn [(2007, 2005)] h
       ·refine Ai Az rfl (qm rfl (AZ rfl (qe rfl ?_)))
        exact sn [(2005, 2007)] h
      ·refine AS ?_
       exact sn [(2006, 2005)] h
     ·refine Af hs (Ai Az rfl (qm rfl (AZ rfl (qe rfl ?_))))
      exact sn [(2003, 2006)] h
    ·refine AS ?_
     exact sn [(2004, 2003)] h
   ·refine Af hs (Ai Az rfl (qm rfl (AZ rfl (qe rfl ?_))))
    exact sn [(2001, 2004)] h
  ·refine AS ?_
   exact sn [(2002, 2001)] h
 ·refine Af hs (wq rfl (qm rfl (qe rfl ?_)))
  obtain rfl := sj h
  refine Af (sm [(1000, 2002)] [(4, oD (.own 1000))] [(1000, .vec 3 (v2.map AM))] rfl rfl) (Au ?_)
  exact ⟨⟨[_], tm, rfl⟩, ⟨rfl, tv⟩⟩
theorem Hl (N : Nat) (p0 : List Int) (p1 : List Int) (r : Int) (h : DJ N p0 p1 = some r) : Av zA0 108 [pD (.sl (p0.map Ap)), pD (.sl (p1.map Ap))] [] (iD r) := by
 unfold DJ at h
 refine cw (n := 46) (rs := [.tmp 4]) Tryz.func108 fun w0 S0 => ?_
 refine wq rfl (qa rfl (Ac (wp rfl (qe rfl ?_))))
 refine AH (L := DA N p0 p1) h (fun v1 => mk [(0, pD (.sl (p0.map Ap))), (1, pD (.sl (p1.map Ap))), (5, iD v1)] []) (fun v2 => mk [(0, pD (.sl (p0.map Ap))), (1, pD (.sl (p1.map Ap)))] []) (fun _ _ => rfl) (sm [] _ _ rfl rfl) (fun j1 n1 v1 h => ?_) (fun v2 s h hs => ?_)
 ·unfold DA at h
  refine AN ?_
  refine AR h (fun v3 => mk [(0, pD (.sl (p0.map Ap))), (1, pD (.sl (p1.map Ap))), (5, iD v1), (15, bD v3)] []) (fun j3 h => ?_) (fun v3 h => ?_)
  ·refine Ai Az rfl (qw 2 rfl (AJ Ax rfl (AT rfl (qm rfl ?_))))
   refine Ec 10 h rfl (fun h => ?_) fun h => ?_
   ·refine qw 2 rfl (AJ Ax rfl (AT rfl (qp rfl (Ac ?_))))
    exact sn [] h
   ·refine qw 4 rfl (qp rfl (Ac ?_))
    exact sn [] h
  ·refine Bd h (fun h => ?_) fun h => ?_
   ·refine Al (AN (AL (wp rfl (qw 2 rfl ?_))))
    refine BT h fun v6 a6 b6 h => qi Ax Da a6 (Ae b6) rfl (qk BW rfl (qw 2 rfl ?_))
    refine BT h fun v7 a7 b7 h => qi Ax Da a7 (Ae b7) rfl (qk BW rfl (AT rfl (AK (by kernel_rfl) ?_)))
    refine Bd h (fun h => ?_) fun h => ?_
    ·refine wq rfl (qe rfl ?_)
     obtain rfl := sj h
     refine Af (sm [] [(4, iD ((-1)))] [] rfl rfl) (Au ?_)
     exact ⟨⟨[_], tm, rfl⟩, tv⟩
    ·refine Al (wq rfl (qw 2 rfl ?_))
     refine BT h fun v9 a9 b9 h => qi Ax Da a9 (Ae b9) rfl (qk BW rfl (qw 2 rfl ?_))
     refine BT h fun v10 a10 b10 h => qi Ax Da a10 (Ae b10) rfl (qk BW rfl (Gt rfl (AK (by kernel_rfl) ?_)))
     refine Bd h (fun h => ?_) fun h => ?_
     ·refine wq rfl (qe rfl ?_)
      obtain rfl := sj h
      refine Af (sm [] [(4, iD 1)] [] rfl rfl) (Au ?_)
      exact ⟨⟨[_], tm, rfl⟩, tv⟩
     ·refine Al (Ai Az rfl (qm rfl (AZ rfl (qe rfl ?_))))
      exact sn [] h
   ·refine AS ?_
    exact sn [] h
 ·refine Af hs (wp rfl (qm rfl (AJ Ax rfl (qm rfl (AJ Ax rfl (AT rfl (Ac ?_)))))))
  refine Bd h (fun h => ?_) fun h => ?_
  ·refine wq rfl (qe rfl ?_)
   obtain rfl := sj h
   refine Af (sm [] [(4, iD ((-1)))] [] rfl rfl) (Au ?_)
   exact ⟨⟨[_], tm, rfl⟩, tv⟩
  ·refine Al (wp rfl (qm rfl (AJ Ax rfl (qm rfl (AJ Ax rfl (Gt rfl (Ac ?_)))))))
   refine Bd h (fun h => ?_) fun h => ?_
   ·refine wq rfl (qe rfl ?_)
    obtain rfl := sj h
    refine Af (sm [] [(4, iD 1)] [] rfl rfl) (Au ?_)
    exact ⟨⟨[_], tm, rfl⟩, tv⟩
   ·refine Al (wq rfl (qe rfl ?_))
    obtain rfl := sj h
    refine Af (sm [] [(4, iD 0)] [] rfl rfl) (Au ?_)
    exact ⟨⟨[_], tm, rfl⟩, tv⟩
theorem HX (N : Nat) (p0 : List Int) (r : (List Int)) (h : Dz N p0 = some r) : Av zA0 109 [pD (.sl (p0.map C8))] [(1, r.map Ap)] (oD (.own 0)) := by
 unfold Dz at h
 refine cw (n := 20) (rs := [.tmp 2]) Tryz.func109 fun w0 S0 => ?_
 refine wq rfl (qa rfl (Ac (wq rfl (qa rfl (Ac (wp rfl (qe rfl ?_)))))))
 refine AH (L := CT N p0) h (fun v1 => mk [(0, pD (.sl (p0.map C8))), (3, oD (.own 2001)), (4, iD v1.2)] [(2001, .vec 1 (v1.1.map Ap))]) (fun v2 => mk [(3, oD (.own 2002))] [(2002, .vec 1 (v2.map Ap))]) (fun _ _ => rfl) ((Ba 3 2003 1 rfl rfl rfl).trans (sm [(2001, 2003)] _ _ rfl rfl)) (fun j1 n1 v1 h => ?_) (fun v2 s h hs => ?_)
 ·unfold CT at h
  refine wp rfl (qw 2 rfl (AJ Dj rfl (AT rfl (Ac ?_))))
  refine Bd h (fun h => ?_) fun h => ?_
  ·refine Al (AN (AL (Ai Az rfl (qw 3 rfl ?_))))
   refine BT h fun v4 a4 b4 h => qi Dj F3 a4 (Ae b4) rfl (qk Kc rfl (Jk cv Yh rfl (DI Ax Da JZ rfl ?_)))
   refine Gf h fun c5 h => DH (f := Ap) Ax Ax Da Lt JZ c5 rfl (qa rfl (Ac (Ai Az rfl (qm rfl (AZ rfl (qe rfl ?_))))))
   exact sn [(2001, 18)] h
  ·refine AS ?_
   exact sn [(2002, 2001)] h
 ·refine Af hs (wq rfl (qm rfl (qe rfl ?_)))
  obtain rfl := sj h
  refine Af (sm [(1000, 2002)] [(2, oD (.own 1000))] [(1000, .vec 1 (v2.map Ap))] rfl rfl) (Au ?_)
  exact ⟨⟨[_], tm, rfl⟩, ⟨rfl, tv⟩⟩
theorem Gp (N : Nat) (p0 : Ab) (p1 : Ab) (r : Int) (h : B3 N p0 p1 = some r) : Av zA0 68 [.e (.agg (AB p0)), .e (.agg (AB p1))] [] (iD r) := by
 unfold B3 at h
 refine cw (n := 30) (rs := [.tmp 4]) Tryz.func68 fun w0 S0 => ?_
 refine wq rfl (qb rfl (qb rfl (qa rfl (Ac (wp rfl (qf CE rfl (ql A1 rfl (qf CE rfl (ql A1 rfl ?_)))))))))
 refine BY h fun v1 a1 h => Ay [] (Hl N p0.fd p1.fd v1 a1) Wj rfl (qa rfl (Ac (wq rfl (qm rfl (BZ rfl (Ac ?_))))))
 refine Bd h (fun h => ?_) fun h => ?_
 ·refine wq rfl (qm rfl (qe rfl ?_))
  obtain rfl := sj h
  refine Af (sm [] [(4, iD v1)] [] rfl rfl) (Au ?_)
  exact ⟨⟨[_], tm, rfl⟩, tv⟩
 ·refine Al (wp rfl (qf Br rfl (ql A1 rfl (qf Br rfl (ql A1 rfl ?_)))))
  refine BY h fun v3 a3 h => Ay [] (Hl N p0.fa p1.fa v3 a3) Wj rfl (qa rfl (Ac (wq rfl (qm rfl (BZ rfl (Ac ?_))))))
  refine Bd h (fun h => ?_) fun h => ?_
  ·refine wq rfl (qm rfl (qe rfl ?_))
   obtain rfl := sj h
   refine Af (sm [] [(4, iD v3)] [] rfl rfl) (Au ?_)
   exact ⟨⟨[_], tm, rfl⟩, tv⟩
  ·refine Al (wq rfl (qf CI rfl (ql Hg rfl ?_)))
   refine BY h fun v5 a5 h => Ay [2001] (HX N p0.fe v5 a5) YK rfl (qf CI rfl (ql Hg rfl ?_))
   refine BY h fun v6 a6 h => Ay [2002] (HX N p1.fe v6 a6) YK rfl ?_
   refine BY h fun v7 a7 h => Dl [] [2001, 2002] (Hl N v5 v6 v7 a7) Wj BV rfl (qa rfl (AK (by kernel_rfl) ?_))
   obtain rfl := sj h
   refine Af (sm [] [(4, iD v7)] [] rfl rfl) (Au ?_)
   exact ⟨⟨[_], tm, rfl⟩, tv⟩
theorem LC (N : Nat) (p0 : List Ab) (p1 : Ab) (r : Int × Bool) (h : EJ N p0 p1 = some r) : Av zA0 74 [pD (.sl (p0.map Ar)), .e (.agg (AB p1))] [] (.tup [.one (iC r.1), .one (.pure (.val (.bool r.2)))]) := by
 unfold EJ at h
 refine cw (n := 36) (rs := [.tmp 4, .tmp 5]) Tryz.func74 fun w0 S0 => ?_
 refine wq rfl (qb rfl (qa rfl (qa rfl (Ac (wq rfl (qa rfl (Ac (AN ?_))))))))
 refine AH (L := De N p0 p1) h (fun v1 => mk [(0, pD (.sl (p0.map Ar))), (3, oD (.ptr 3 0)), (6, iD v1)] [(3, .box (AB p1))]) (fun v2 => mk [(0, pD (.sl (p0.map Ar))), (3, oD (.ptr 3 0)), (6, iD v2)] [(3, .box (AB p1))]) (fun _ _ => rfl) (sm [] _ _ rfl rfl) (fun j1 n1 v1 h => ?_) (fun v2 s h hs => ?_)
 ·unfold De at h
  refine AN ?_
  refine AR h (fun v3 => mk [(0, pD (.sl (p0.map Ar))), (3, oD (.ptr 3 0)), (6, iD v1), (19, bD v3)] [(3, .box (AB p1))]) (fun j3 h => ?_) (fun v3 h => ?_)
  ·refine Ai Az rfl (qw 2 rfl (AJ BB rfl (AT rfl (qm rfl ?_))))
   refine Ec 11 h rfl (fun h => ?_) fun h => ?_
   ·refine qw 2 rfl ?_
    refine BT h fun v5 a5 b5 h => qi BB AF a5 (Ae b5) rfl (qK A0 AF rfl (qL A0 AF rfl ?_))
    refine BY h fun v6 a6 h => Ay [] (Gp N v5 p1 v6 a6) ZC rfl (AT rfl (qp rfl (AK (by kernel_rfl) ?_)))
    exact sn [] h
   ·refine qw 7 rfl (qp rfl (AK (by kernel_rfl) ?_))
    exact sn [] h
  ·refine Bd h (fun h => ?_) fun h => ?_
   ·refine Al (AL (Ai Az rfl (qm rfl (AZ rfl (qe rfl ?_)))))
    exact sn [] h
   ·refine AS ?_
    exact sn [] h
 ·refine Af hs ?_
  refine AR h (fun v8 => mk [(4, iD v2), (5, bD v8)] []) (fun j8 h => ?_) (fun v8 h => ?_)
  ·refine Ai Az rfl (qw 3 rfl (AJ BB rfl (AT rfl (qm rfl ?_))))
   refine Ec 27 h rfl (fun h => ?_) fun h => ?_
   ·refine qw 2 rfl ?_
    refine BT h fun v10 a10 b10 h => qi BB AF a10 (Ae b10) rfl (qK A0 AF rfl (qL A0 AF rfl ?_))
    refine BY h fun v11 a11 h => Ay [] (Gp N v10 p1 v11 a11) ZC rfl (BX rfl (qp rfl (qa rfl (qa rfl (AK (by kernel_rfl) ?_)))))
    exact sn [] h
   ·refine qw 7 rfl (qp rfl (qa rfl (qa rfl (AK (by kernel_rfl) ?_))))
    exact sn [] h
  ·obtain rfl := sj h
   refine Af (sm [] [(4, iD v2), (5, bD v8)] [] rfl rfl) (Au ?_)
   exact ⟨⟨[_, _], ⟨.tmp _ _ rfl, tm⟩, rfl⟩, tv⟩
theorem Il (N : Nat) (p0 : Aa) (p1 : Int) (r : (List Ab) × Bool) (h : C2 N p0 p1 = some r) : Av zA0 29 [.e (.agg (Ag p0)), iD p1] [(3, r.1.map Ar)] (.tup [.one (.own 0), .one (.pure (.val (.bool r.2)))]) := by
 unfold C2 at h
 refine cw (n := 95) (rs := [.tmp 4, .tmp 5]) Tryz.func29 fun w0 S0 => ?_
 refine wq rfl (qb rfl (qa rfl (qa rfl (Ac (wq rfl (qL C0 Cx rfl ?_))))))
 refine BY h fun v1 a1 h => Ay [2001, 2002, 2003] (LE N p0 v1 a1) cE rfl (qm rfl (qx rfl (qx rfl (qz Ci rfl (qs AF rfl (qa rfl (Ac (wp rfl (qL C0 Cx rfl (qL A0 AF rfl ?_))))))))))
 refine BY h fun v2 a2 h => Dl [] [2001, 2002, 2003] (HR N p0 v1.1 v2 a2) ae BV rfl (CF rfl (Ac ?_))
 refine Bd h (fun h => ?_) fun h => ?_
 ·refine wq rfl (qa rfl (qe rfl ?_))
  obtain rfl := sj h
  refine Af ((Ba 4 2004 3 rfl rfl rfl).trans (sm [(1000, 2004)] [(4, oD (.own 1000)), (5, bD true)] [(1000, .vec 3 ((([] : List Ab)).map Ar))] rfl rfl)) (Au ?_)
  exact ⟨⟨[_, _], ⟨.tmp _ _ rfl, tm⟩, rfl⟩, ⟨rfl, tv⟩⟩
 ·refine Al (wq rfl (qL A0 AF rfl (Dh (AW 2001 _ _ rfl rfl) (Dh (AW 2002 _ _ rfl rfl) (Dh (AW 2003 _ _ rfl rfl) (DI BB AF Ci rfl (qa rfl (Ac (wq rfl (qL A0 AF rfl (DI BB AF Ci rfl (qa rfl (Ac (wp rfl (qe rfl ?_)))))))))))))))
  refine AH (L := CB N p0 p1) h (fun v4 => mk [(1, iD p1), (2, oD (.ptr 2 0)), (8, oD (.own 2005)), (9, oD (.own 2006)), (10, iD v4.2.2)] [(2, .box (Ag p0)), (2005, .vec 3 (v4.1.map Ar)), (2006, .vec 3 (v4.2.1.map Ar))]) (fun v5 => mk [(9, oD (.own 2007))] [(2007, .vec 3 (v5.map Ar))]) (fun _ _ => rfl) (sm [(2005, 27), (2006, 29)] _ _ rfl rfl) (fun j4 n4 v4 h => ?_) (fun v5 s h hs => ?_)
  ·unfold CB at h
   refine wp rfl (qw 2 rfl (DQ BB rfl (AT rfl (Ac ?_))))
   refine Bd h (fun h => ?_) fun h => ?_
   ·refine Al (AN (AL (wq rfl (qL C0 Cx rfl (qw 2 rfl ?_)))))
    refine BT h fun v7 a7 b7 h => qI BB AF a7 (Ae b7) rfl (qJ A0 AF (Ae b7) rfl ?_)
    refine BY h fun v8 a8 h => Ay [2008] (Lx N p0 v7 v8 a8) cH rfl (qa rfl (AK (by kernel_rfl) (wq rfl (qe rfl ?_))))
    refine AH (L := B6 N p0 p1 v4 v8) h (fun v9 => mk [(1, iD p1), (2, oD (.ptr 2 0)), (8, oD (.own 2009)), (9, oD (.own 2010)), (10, iD v4.2.2), (11, oD (.own 2011)), (12, iD v9.2.2)] [(2, .box (Ag p0)), (2009, .vec 3 (v9.1.map Ar)), (2010, .vec 3 (v9.2.1.map Ar)), (2011, .vec 3 (v8.map AM))]) (fun v10 => mk [(1, iD p1), (2, oD (.ptr 2 0)), (8, oD (.own 2012)), (9, oD (.own 2013)), (10, iD v4.2.2)] [(2, .box (Ag p0)), (2012, .vec 3 (v10.1.map Ar)), (2013, .vec 3 (v10.2.map Ar))]) (fun _ _ => rfl) (sm [(2009, 2005), (2010, 2006), (2011, 2008)] _ _ rfl rfl) (fun j9 n9 v9 h => ?_) (fun v10 s h hs => ?_)
    ·unfold B6 at h
     refine wp rfl (qw 2 rfl (DQ Fj rfl (AT rfl (Ac ?_))))
     refine Bd h (fun h => ?_) fun h => ?_
     ·refine Al ?_
      refine AR h (fun v12 => mk [(1, iD p1), (2, oD (.ptr 2 0)), (8, oD (.own 2014)), (9, oD (.own 2015)), (10, iD v4.2.2), (11, oD (.own 2016)), (12, iD v9.2.2)] [(2, .box (Ag p0)), (2014, .vec 3 (v12.1.map Ar)), (2015, .vec 3 (v12.2.map Ar)), (2016, .vec 3 (v8.map AM))]) (fun j12 h => ?_) (fun v12 h => ?_)
      ·refine AL (wq rfl (qL C0 Cx rfl (qw 2 rfl ?_)))
       refine BT h fun v13 a13 b13 h => qI BB AF a13 (Ae b13) rfl (qJ A0 AF (Ae b13) rfl (qw 2 rfl ?_))
       refine BT h fun v14 a14 b14 h => qI Fj E8 a14 (Ae b14) rfl (qJ IJ E8 (Ae b14) rfl ?_)
       refine BY h fun v15 a15 h => Ay [2017, 2018, 2019] (IC N p0 v13 v14 v15 a15) Z5 rfl (qm rfl (qx rfl (qx rfl (qz Ci rfl (qs AF rfl (qa rfl (AK (by kernel_rfl) (wq rfl (qm rfl (qL A0 AF rfl ?_))))))))))
       refine BY h fun v16 a16 h => Dl [] [2010, 2017, 2018, 2019] (LC N v9.2.1 v15.1 v16 a16) cC BV rfl (qm rfl (qx rfl (qx rfl (qa rfl (qa rfl (Ac (AN ?_)))))))
       refine AR h (fun v17 => mk [(1, iD p1), (2, oD (.ptr 2 0)), (8, oD (.own 2023)), (9, oD (.own 2024)), (10, iD v4.2.2), (11, oD (.own 2025)), (12, iD v9.2.2), (13, oD (.ptr 13 0)), (15, iD v16.1), (73, bD v17)] [(2, .box (Ag p0)), (13, .box [.own 2020, .own 2021, .own 2022]), (2020, .vec 1 (v15.1.fd.map Ap)), (2021, .vec 1 (v15.1.fa.map Ap)), (2022, .vec 1 (v15.1.fe.map C8)), (2023, .vec 3 (v9.1.map Ar)), (2024, .vec 3 (v9.2.1.map Ar)), (2025, .vec 3 (v8.map AM))]) (fun j17 h => ?_) (fun v17 h => ?_)
       ·refine Ai Az rfl (qw 2 rfl ?_)
        refine Ec 68 h rfl (fun h => ?_) fun h => ?_
        ·refine qw 4 rfl (qp rfl (Ac ?_))
         exact sn [(2020, 2017), (2021, 2018), (2022, 2019), (2023, 2009), (2024, 2010), (2025, 2011)] h
        ·refine qL C0 Cx rfl (qL A0 AF rfl ?_)
         refine BY h fun v19 a19 h => Dl [] [2017, 2018, 2019] (HR N p0 v15.1 v19 a19) ae BV rfl (CF rfl (qp rfl (Ac ?_)))
         exact sn [(2020, 2017), (2021, 2018), (2022, 2019), (2023, 2009), (2024, 2010), (2025, 2011)] h
       ·refine Bd h (fun h => ?_) fun h => ?_
        ·refine AS ?_
         exact sn [(2014, 2023), (2015, 2024), (2016, 2025)] h
        ·refine Al (wq rfl (qm rfl (qL A0 AF rfl (Dh (AW 2020 _ _ rfl rfl) (Dh (AW 2021 _ _ rfl rfl) (Dh (AW 2022 _ _ rfl rfl) (DI BB AF Ci rfl ?_)))))))
         refine Gf h fun c21 h => DH (f := Ar) BB BB AF NT Ci c21 rfl (qa rfl (Ac (AN (Af (AW 2024 _ _ rfl rfl) (Ai Az rfl (DI BB AF Ci rfl (qw 2 rfl ?_)))))))
         refine Gf h fun c22 h => Um (.p rfl) rfl BB AF (MT (f := Ar) (n := 3) (fun _ => rfl) _) (.none _) (.some _ _ _ _ c22.1) tv ⟨rfl, tv⟩ (by have := c22.2.1; (try simp only [zC2]); omega) (by have := c22.2.2; (try simp only [zC2]); omega) (SQ Ar v9.2.1 _ _ ((v16.1).toNat - 0) rfl) ?_
         refine Gf h fun c23 h => HC (f := Ar) BB BB AF NT Ci (fun _ => rfl) c23 rfl (qL A0 AF rfl (DI BB AF Ci rfl ?_))
         refine Gf h fun c24 h => DH (f := Ar) BB BB AF NT Ci c24 rfl (qw 2 rfl ?_)
         refine Gf h fun c25 h => Um (.p rfl) rfl BB AF (MT (f := Ar) (n := 3) (fun _ => rfl) _) (.some _ _ _ _ c25.1) (.none _) ⟨rfl, tv⟩ tv (by have := c25.2.1; (try simp only [zC2]); omega) (by have := c25.2.2; (try simp only [zC2]); omega) (SQ Ar v9.2.1 _ _ (v9.2.1.length - (v16.1).toNat) (by rw [zC2])) ?_
         refine Gf h fun c26 h => HC (f := Ar) BB BB AF NT Ci (fun _ => rfl) c26 rfl (qa rfl (AK (by kernel_rfl) (wq rfl (qm rfl (DQ BB rfl (qm rfl (Gt rfl (Ac ?_))))))))
         refine Bd h (fun h => ?_) fun h => ?_
         ·refine wq rfl (qa rfl (qe rfl ?_))
          obtain rfl := sj h
          refine Af ((Ba 4 2026 3 rfl rfl rfl).trans (sm [(1000, 2026)] [(4, oD (.own 1000)), (5, bD false)] [(1000, .vec 3 ((([] : List Ab)).map Ar))] rfl rfl)) (Au ?_)
          exact ⟨⟨[_, _], ⟨.tmp _ _ rfl, tm⟩, rfl⟩, ⟨rfl, tv⟩⟩
         ·refine Al ?_
          exact sn [(2014, 77), (2015, 89), (2016, 2025)] h
      ·refine Ai Az rfl (qm rfl (AZ rfl (qe rfl ?_)))
       exact sn [(2009, 2014), (2010, 2015), (2011, 2016)] h
     ·refine AS ?_
      exact sn [(2012, 2009), (2013, 2010)] h
    ·refine Af hs (Ai Az rfl (qm rfl (AZ rfl (qe rfl ?_))))
     exact sn [(2005, 2012), (2006, 2013)] h
   ·refine AS ?_
    exact sn [(2007, 2006)] h
  ·refine Af hs (wq rfl (qm rfl (qa rfl (qe rfl ?_))))
   obtain rfl := sj h
   refine Af (sm [(1000, 2007)] [(4, oD (.own 1000)), (5, bD true)] [(1000, .vec 3 (v5.map Ar))] rfl rfl) (Au ?_)
   exact ⟨⟨[_, _], ⟨.tmp _ _ rfl, tm⟩, rfl⟩, ⟨rfl, tv⟩⟩
theorem LD (N : Nat) (p0 : BJ) (r : Aa × (List Ab) × Bool) (h : Fw N p0 = some r) : Av zA0 10 [.e (.agg (CO p0))] [(3, r.2.1.map Ar)] (.tup [.agg (Ag r.1), .one (.own 0), .one (.pure (.val (.bool r.2.2)))]) := by
 unfold Fw at h
 refine cw (n := 25) (rs := [.cell 2 29, .tmp 3, .tmp 4]) Tryz.func10 fun w0 S0 => ?_
 refine wq rfl (qb rfl (qz Ms rfl (qa rfl (qa rfl (Ac (wq rfl (qL Z7 az rfl ?_)))))))
 refine BY h fun v1 a1 h => Ay [2001, 2002, 2003, 2004] (Nn N p0 v1 a1) ck rfl (qm rfl (qx rfl (qx rfl (qz Ms rfl (qs Cx rfl (qa rfl (Ac (wp rfl (qm rfl (CF rfl (Ac ?_)))))))))))
 refine Bd h (fun h => ?_) fun h => ?_
 ·refine wq rfl (qL C0 Cx rfl (qs Cx rfl (qa rfl (qe rfl ?_))))
  obtain rfl := sj h
  refine Af ((Ba 3 2005 3 rfl rfl rfl).trans ((AW 2001 _ _ rfl rfl).trans ((AW 2002 _ _ rfl rfl).trans ((AW 2003 _ _ rfl rfl).trans ((AW 2004 _ _ rfl rfl).trans (sm [(1000, 2005)] [(2, oD (.ptr 2 0)), (3, oD (.own 1000)), (4, bD false)] [(2, .box (Ag v1.1)), (1000, .vec 3 ((([] : List Ab)).map Ar))] rfl rfl)))))) (Au ?_)
  exact ⟨⟨[_, _, _], ⟨.cellN _ _ _ _ _ _ _ rfl rfl C0 Cx rfl rfl (ID rfl), ⟨.tmp _ _ rfl, tm⟩⟩, rfl⟩, ⟨rfl, tv⟩⟩
 ·refine Al (wq rfl (qL C0 Cx rfl (Dh (AW 2001 _ _ rfl rfl) (Dh (AW 2002 _ _ rfl rfl) (Dh (AW 2003 _ _ rfl rfl) (Dh (AW 2004 _ _ rfl rfl) ?_))))))
  refine BY h fun v3 a3 h => Ay [2006] (Il N v1.1 300 v3 a3) bg rfl (qm rfl (qx rfl (qx rfl (qa rfl (qa rfl (Ac (wq rfl (qL C0 Cx rfl (qw 2 rfl (qs Cx rfl (qa rfl (qe rfl ?_))))))))))))
  obtain rfl := sj h
  refine Af (sm [(1000, 2006)] [(2, oD (.ptr 2 0)), (3, oD (.own 1000)), (4, bD v3.2)] [(2, .box (Ag v1.1)), (1000, .vec 3 (v3.1.map Ar))] rfl rfl) (Au ?_)
  exact ⟨⟨[_, _, _], ⟨.cellN _ _ _ _ _ _ _ rfl rfl C0 Cx rfl rfl (ID rfl), ⟨.tmp _ _ rfl, tm⟩⟩, rfl⟩, ⟨rfl, tv⟩⟩
theorem C1 (N : Nat) (r : Aa) (h : B0 N = some r) : Av zA0 39 [] [(1, r.fb.map Ap), (1, r.fh.map Ap), (1, r.fi.map Ap), (6, r.fc.map AQ)] (.e (.agg [.own 0, .own 1, .own 2, .own 3])) := by
 unfold B0 at h
 refine cw (n := 10) (rs := [.cell 0 29]) Tryz.func39 fun w0 S0 => ?_
 refine wq rfl (qz Ms rfl (Ac (wq rfl (DI Ax Da JZ rfl (DI Ax Da JZ rfl (DI Ax Da JZ rfl (DI FZ PQ Wc rfl (DI FZ PQ Wc rfl (Dh (AW 4 _ _ rfl rfl) (Dh (AW 5 _ _ rfl rfl) (DI Fo La Vy rfl (A9 Kb Zo rfl (Dh (AW 6 _ _ rfl rfl) (DI Dc DR Kb rfl (A9 Ms W1 rfl (qs Cx rfl (Ac ?_)))))))))))))))))
 obtain rfl := sj h
 refine Af (sm [(1000, 1), (1001, 2), (1002, 3), (1003, 8)] [(0, oD (.ptr 0 0))] [(0, .box [.own 1000, .own 1001, .own 1002, .own 1003]), (1000, .vec 1 ((([2] : List Int)).map Ap)), (1001, .vec 1 ((([0] : List Int)).map Ap)), (1002, .vec 1 ((([1] : List Int)).map Ap)), (1003, .vec 6 ((([(An.mk 1 0 0 false (([([true, true] : List Bool), ([false, true] : List Bool)] : List (List Bool))) (([] : List (List Bool))))] : List An)).map AQ))] rfl rfl) (Au ?_)
 exact ⟨⟨[_], ⟨.cellN _ _ _ _ _ _ _ rfl rfl C0 Cx rfl rfl (ID rfl), tv⟩, rfl⟩, ⟨rfl, rfl, rfl, rfl, tv⟩⟩
theorem HU (N : Nat) (p0 : Int) (p1 : Int) (r : Bool) (h : Er N p0 p1 = some r) : Av zA0 102 [iD p0, iD p1] [] (bD r) := by
 unfold Er at h
 refine cw (n := 12) (rs := [.tmp 4]) Tryz.func102 fun w0 S0 => ?_
 refine wq rfl (qe rfl ?_)
 refine AR h (fun v1 => mk [(4, bD v1)] []) (fun j1 h => ?_) (fun v1 h => ?_)
 ·refine Ai Az rfl (qm rfl (ET rfl (qm rfl ?_)))
  refine Ec 7 h rfl (fun h => ?_) fun h => ?_
  ·refine qw 2 rfl (AT rfl (qp rfl (qe rfl ?_)))
   exact sn [] h
  ·refine qw 3 rfl (qp rfl (qe rfl ?_))
   exact sn [] h
 ·obtain rfl := sj h
  refine Af (sm [] [(4, bD v1)] [] rfl rfl) (Au ?_)
  exact ⟨⟨[_], tm, rfl⟩, tv⟩
theorem QL (N : Nat) (p0 : Int) (p1 : Bool) (r : Bool) (h : He N p0 p1 = some r) : Av zA0 130 [iD p0, bD p1] [] (bD r) := by
 unfold He at h
 refine cw (n := 23) (rs := [.tmp 4]) Tryz.func130 fun w0 S0 => ?_
 refine wq rfl (qe rfl ?_)
 refine AR h (fun v1 => mk [(4, bD v1)] []) (fun j1 h => ?_) (fun v1 h => ?_)
 ·refine Ai Az rfl (qm rfl (BX rfl (qm rfl ?_)))
  refine Ec 7 h rfl (fun h => ?_) fun h => ?_
  ·refine qw 2 rfl (qp rfl (qw 4 rfl (qu rfl (qu rfl (qw 2 rfl (qu rfl (qu rfl (qn rfl (qp rfl (qe rfl ?_))))))))))
   exact sn [] h
  ·refine qm rfl (BX rfl (qp rfl (qm rfl ?_)))
   refine Ec 11 h rfl (fun h => ?_) fun h => ?_
   ·refine qw 3 rfl (qu rfl (qu rfl (qw 2 rfl (qu rfl (qu rfl (qn rfl (qp rfl (qe rfl ?_))))))))
    exact sn [] h
   ·refine qm rfl (BX rfl (qm rfl ?_))
    refine Ec 14 h rfl (fun h => ?_) fun h => ?_
    ·refine qw 2 rfl (qp rfl (qw 2 rfl (CF rfl (qp rfl (qp rfl (qe rfl ?_))))))
     exact sn [] h
    ·refine qm rfl (BX rfl (qp rfl (qm rfl ?_)))
     refine Ec 18 h rfl (fun h => ?_) fun h => ?_
     ·refine qm rfl (CF rfl (qp rfl (qp rfl (qe rfl ?_))))
      exact sn [] h
     ·refine qw 2 rfl (qp rfl (qp rfl (qe rfl ?_)))
      exact sn [] h
 ·obtain rfl := sj h
  refine Af (sm [] [(4, bD v1)] [] rfl rfl) (Au ?_)
  exact ⟨⟨[_], tm, rfl⟩, tv⟩
theorem Nf (N : Nat) (p0 : List Bool) (p1 : Int) (r : Bool) (h : Eh N p0 p1 = some r) : Av zA0 160 [pD (.sl (p0.map eB)), oD (.rop [.val (.int .i64 p1)])] [] (bD r) := by
 unfold Eh at h
 refine cw (n := 8) (rs := [.tmp 3]) Tryz.func160 fun w0 S0 => ?_
 refine wq rfl (qa rfl (Ac (wq rfl (qm rfl (AJ FZ rfl (qk BW rfl (BZ rfl (qe rfl ?_))))))))
 obtain rfl := sj h
 refine Af (sm [] [(3, bD (((p0.length : Int) != p1)))] [] rfl rfl) (Au ?_)
 exact ⟨⟨[_], tm, rfl⟩, tv⟩
theorem Ix (N : Nat) (p0 : List (List Bool)) (p1 : (List Bool) → Option Bool) (r : Int) (h : DL N p0 p1 = some r) : Av zA0 170 [pD (.sl (p0.map (HB eB))), oD (.clo (HJ (Nw false (HB eB)) tB p1))] [] (iD r) := by
 unfold DL at h
 refine cw (n := 19) (rs := [.tmp 4]) Tryz.func170 fun w0 S0 => ?_
 refine wq rfl (qa rfl (Ac (wp rfl (qm rfl (AJ Fo rfl (qm rfl (Ac ?_)))))))
 refine AH (L := Bp N p0 p1) h (fun v1 => mk [(0, pD (.sl (p0.map (HB eB)))), (1, oD (.clo (HJ (Nw false (HB eB)) tB p1))), (7, iD ((p0.length : Int))), (8, iD v1)] []) (fun v2 => mk [] []) (fun _ _ => rfl) (sm [] _ _ rfl rfl) (fun j1 n1 v1 h => ?_) (fun v2 s h hs => ?_)
 ·unfold Bp at h
  refine wq rfl (AT rfl (Ac (AN ?_)))
  refine Bd h (fun h => ?_) fun h => ?_
  ·refine Al (AN (AL (wq rfl (qm rfl (qa rfl (Ac (wq rfl (qw 3 rfl ?_))))))))
   refine BT h fun v4 a4 b4 h => qi Fo La a4 (Ae b4) rfl (qk Od rfl ?_)
   refine BY h fun v5 a5 h => J8 (ds0 := [_]) (ar := (Nw false (HB eB)) v4) (.p rfl) rfl rfl ⟨rfl, tv⟩ rfl rfl rfl (Jy (MR _ _ (aX ci)) a5) ?_
   refine Ac ?_
   refine Bd h (fun h => ?_) fun h => ?_
   ·refine wq rfl (qm rfl (qe rfl ?_))
    obtain rfl := sj h
    refine Af (sm [] [(4, iD v1)] [] rfl rfl) (Au ?_)
    exact ⟨⟨[_], tm, rfl⟩, tv⟩
   ·refine Al (Ai Az rfl (AZ rfl (qm rfl (Ac ?_))))
    exact sn [] h
  ·refine AS ?_
   exact sn [] h
 ·refine Af hs (wq rfl (qe rfl ?_))
  obtain rfl := sj h
  refine Af (sm [] [(4, iD ((-1)))] [] rfl rfl) (Au ?_)
  exact ⟨⟨[_], tm, rfl⟩, tv⟩
theorem HW (N : Nat) (p0 : List (List Bool)) (p1 : (List Bool) → Option Bool) (r : Bool) (h : C9 N p0 p1 = some r) : Av zA0 159 [pD (.sl (p0.map (HB eB))), oD (.clo (HJ (Nw false (HB eB)) tB p1))] [] (bD r) := by
 unfold C9 at h
 refine cw (n := 9) (rs := [.tmp 4]) Tryz.func159 fun w0 S0 => ?_
 refine wq rfl (qa rfl (Ac (wq rfl (qw 2 rfl ?_))))
 refine BY h fun v1 a1 h => Ay [] (Ix N p0 p1 v1 a1) ax rfl (ET rfl (qe rfl ?_))
 obtain rfl := sj h
 refine Af (sm [] [(4, bD ((decide (0 ≤ v1))))] [] rfl rfl) (Au ?_)
 exact ⟨⟨[_], tm, rfl⟩, tv⟩
theorem K6 (N : Nat) (p0 : List (List Bool)) (p1 : Int) (p2 : Int) (r : Bool) (h : Fv N p0 p1 p2 = some r) : Av zA0 131 [pD (.sl (p0.map (HB eB))), iD p1, iD p2] [] (bD r) := by
 unfold Fv at h
 refine cw (n := 17) (rs := [.tmp 6]) Tryz.func131 fun w0 S0 => ?_
 refine wq rfl (qb rfl (qe rfl ?_))
 refine AR h (fun v1 => mk [(6, bD v1)] []) (fun j1 h => ?_) (fun v1 h => ?_)
 ·refine Ai Az rfl (qm rfl (AJ Fo rfl (qm rfl (BX rfl (qm rfl ?_)))))
  refine Ec 11 h rfl (fun h => ?_) fun h => ?_
  ·refine qm rfl (Dh (KG 5 [.val (.int .i64 p2)] rfl rfl) ?_)
   refine J9 (capD := [_]) (HJ (Nw false (HB eB)) tB ((fun (x : List Bool) => Eh N x p2))) (.g rfl rfl) bH rfl ⟨rfl, tv⟩ rfl (fun ar t ht => by obtain ⟨x, r, rfl, hq, rfl⟩ := Hx ht; exact Nf N x p2 r hq) ?_
   refine BY h fun v3 a3 h => Ay [] (HW N p0 ((fun (x : List Bool) => Eh N x p2)) v3 a3) aA rfl (CF rfl (qp rfl (qe rfl ?_)))
   exact sn [] h
  ·refine qw 4 rfl (qp rfl (qe rfl ?_))
   exact sn [] h
 ·obtain rfl := sj h
  refine Af (sm [] [(6, bD v1)] [] rfl rfl) (Au ?_)
  exact ⟨⟨[_], tm, rfl⟩, tv⟩
theorem PC (N : Nat) (p0 : Aa) (p1 : An) (r : Int) (h : GG N p0 p1 = some r) : Av zA0 103 [.e (.agg (Ag p0)), .e (.agg (Be p1))] [] (iD r) := by
 unfold GG at h
 refine cw (n := 87) (rs := [.tmp 4]) Tryz.func103 fun w0 S0 => ?_
 refine wq rfl (qb rfl (qb rfl (qa rfl (Ac (wp rfl (qf F8 rfl (ql BW rfl (qf IH rfl (ql Td rfl ?_)))))))))
 refine BY h fun v1 a1 h => Ay [] (QL N p1.ff p1.ft v1 a1) al rfl (CF rfl (Ac ?_))
 refine Bd h (fun h => ?_) fun h => ?_
 ·refine wq rfl (qe rfl ?_)
  obtain rfl := sj h
  refine Af (sm [] [(4, iD 1)] [] rfl rfl) (Au ?_)
  exact ⟨⟨[_], tm, rfl⟩, tv⟩
 ·refine Al (AN ?_)
  refine AR h (fun v3 => mk [(2, oD (.ptr 2 0)), (3, oD (.ptr 3 0)), (29, bD v3)] [(2, .box (Ag p0)), (3, .box (Be p1))]) (fun j3 h => ?_) (fun v3 h => ?_)
  ·refine Ai Az rfl (qf Dk rfl (ql BW rfl (qf Bv rfl (ql A1 rfl (AJ Ax rfl ?_)))))
   refine BY h fun v4 a4 h => Ay [] (HU N p1.fg ((p0.fb.length : Int)) v4 a4) T2 rfl (CF rfl (qm rfl ?_))
   refine Ec 21 h rfl (fun h => ?_) fun h => ?_
   ·refine qw 7 rfl (qp rfl (Ac ?_))
    exact sn [] h
   ·refine qf Ic rfl (ql BW rfl (qf Bv rfl (ql A1 rfl (AJ Ax rfl ?_))))
    refine BY h fun v6 a6 h => Ay [] (HU N p1.fm ((p0.fb.length : Int)) v6 a6) T2 rfl (CF rfl (qp rfl (Ac ?_)))
    exact sn [] h
  ·refine Bd h (fun h => ?_) fun h => ?_
   ·refine wq rfl (qe rfl ?_)
    obtain rfl := sj h
    refine Af (sm [] [(4, iD 4)] [] rfl rfl) (Au ?_)
    exact ⟨⟨[_], tm, rfl⟩, tv⟩
   ·refine Al (wq rfl (qf Bv rfl (ql A1 rfl (qf Dk rfl (ql BW rfl ?_)))))
    refine BT h fun v8 a8 b8 h => qi Ax Da a8 (Ae b8) rfl (qk BW rfl (qa rfl (Ac (wq rfl (qf F8 rfl (ql BW rfl (BX rfl (qa rfl (Ac (AN ?_))))))))))
    refine AR h (fun v9 => mk [(3, oD (.ptr 3 0)), (70, bD v9)] [(3, .box (Be p1))]) (fun j9 h => ?_) (fun v9 h => ?_)
    ·refine Ai Az rfl (qf HQ rfl (ql Jl rfl (qm rfl (qf Bv rfl (ql A1 rfl (qf Ic rfl (ql BW rfl ?_)))))))
     refine BT h fun v10 a10 b10 h => qi Ax Da a10 (Ae b10) rfl (qk BW rfl ?_)
     refine BY h fun v11 a11 h => Ay [] (K6 N p1.fk v8 v10 v11 a11) YP rfl (CF rfl (qm rfl ?_))
     refine Ec 50 h rfl (fun h => ?_) fun h => ?_
     ·refine qw 2 rfl (qu rfl (qu rfl (qu rfl (qu rfl (qu rfl (qu rfl (qn rfl (qp rfl (qw 4 rfl (qu rfl (qu rfl (qu rfl (qu rfl (qn rfl (qp rfl (AK (by kernel_rfl) ?_))))))))))))))))
      exact sn [] h
     ·refine qw 2 rfl ?_
      refine Ec 52 h rfl (fun h => ?_) fun h => ?_
      ·refine qf GI rfl (ql Jl rfl (qw 2 rfl ?_))
       refine BY h fun v14 a14 h => Ay [] (K6 N p1.fo v8 v8 v14 a14) YP rfl (CF rfl (qp rfl (qp rfl (qm rfl ?_))))
       refine Ec 61 h rfl (fun h => ?_) fun h => ?_
       ·refine qw 3 rfl (qu rfl (qu rfl (qu rfl (qu rfl (qn rfl (qp rfl (AK (by kernel_rfl) ?_)))))))
        exact sn [] h
       ·refine qm rfl (CF rfl (qm rfl ?_))
        refine Ec 64 h rfl (fun h => ?_) fun h => ?_
        ·refine qf GI rfl (ql Jl rfl (AJ Fo rfl (Gt rfl (qp rfl (qp rfl (AK (by kernel_rfl) ?_))))))
         exact sn [] h
        ·refine qw 4 rfl (qp rfl (qp rfl (AK (by kernel_rfl) ?_)))
         exact sn [] h
      ·refine qw 6 rfl (qp rfl (qp rfl (qw 2 rfl (CF rfl (qm rfl ?_)))))
       refine Ec 64 h rfl (fun h => ?_) fun h => ?_
       ·refine qf GI rfl (ql Jl rfl (AJ Fo rfl (Gt rfl (qp rfl (qp rfl (AK (by kernel_rfl) ?_))))))
        exact sn [] h
       ·refine qw 4 rfl (qp rfl (qp rfl (AK (by kernel_rfl) ?_)))
        exact sn [] h
    ·refine Bd h (fun h => ?_) fun h => ?_
     ·refine wq rfl (qe rfl ?_)
      obtain rfl := sj h
      refine Af (sm [] [(4, iD 6)] [] rfl rfl) (Au ?_)
      exact ⟨⟨[_], tm, rfl⟩, tv⟩
     ·refine Al (wp rfl (qf GI rfl (ql Jl rfl (AJ Fo rfl (qm rfl (Ac ?_))))))
      refine AH (L := Du N p1) h (fun v19 => mk [(3, oD (.ptr 3 0)), (73, iD ((p1.fo.length : Int))), (74, iD v19)] [(3, .box (Be p1))]) (fun v20 => mk [] []) (fun _ _ => rfl) (sm [] _ _ rfl rfl) (fun j19 n19 v19 h => ?_) (fun v20 s h hs => ?_)
      ·unfold Du at h
       refine wq rfl (AT rfl (Ac (AN ?_)))
       refine Bd h (fun h => ?_) fun h => ?_
       ·refine Al (AN (AL (wq rfl (qm rfl (qa rfl (Ac (wq rfl (qf GI rfl (ql Jl rfl (qm rfl ?_))))))))))
        refine BT h fun v22 a22 b22 h => qi Fo La a22 (Ae b22) rfl (qk Od rfl (qm rfl ?_))
        refine BT h fun v23 a23 b23 h => qi FZ PQ a23 (Ae b23) rfl (qk Td rfl (CF rfl (Ac ?_)))
        refine Bd h (fun h => ?_) fun h => ?_
        ·refine wq rfl (qe rfl ?_)
         obtain rfl := sj h
         refine Af (sm [] [(4, iD 1)] [] rfl rfl) (Au ?_)
         exact ⟨⟨[_], tm, rfl⟩, tv⟩
        ·refine Al (Ai Az rfl (AZ rfl (qm rfl (Ac ?_))))
         exact sn [] h
       ·refine AS ?_
        exact sn [] h
      ·refine Af hs (wq rfl (qe rfl ?_))
       obtain rfl := sj h
       refine Af (sm [] [(4, iD 0)] [] rfl rfl) (Au ?_)
       exact ⟨⟨[_], tm, rfl⟩, tv⟩
theorem FF (N : Nat) (p0 : Aa) (r : Int) (h : CH N p0 = some r) : Av zA0 58 [.e (.agg (Ag p0))] [] (iD r) := by
 unfold CH at h
 refine cw (n := 81) (rs := [.tmp 2]) Tryz.func58 fun w0 S0 => ?_
 refine wq rfl (qb rfl (qa rfl (Ac (wq rfl (qf Bv rfl (ql A1 rfl (AJ Ax rfl (qa rfl (Ac (AN ?_))))))))))
 refine AR h (fun v1 => mk [(1, oD (.ptr 1 0)), (3, iD ((p0.fb.length : Int))), (19, bD v1)] [(1, .box (Ag p0))]) (fun j1 h => ?_) (fun v1 h => ?_)
 ·refine Ai Az rfl (qm rfl (Gt rfl (qm rfl ?_)))
  refine Ec 14 h rfl (fun h => ?_) fun h => ?_
  ·refine qw 4 rfl (qp rfl (Ac ?_))
   exact sn [] h
  ·refine qf BU rfl (ql Gi rfl (AJ Dc rfl (Gt rfl (qp rfl (Ac ?_)))))
   exact sn [] h
 ·refine Bd h (fun h => ?_) fun h => ?_
  ·refine wq rfl (qe rfl ?_)
   obtain rfl := sj h
   refine Af (sm [] [(2, iD 3)] [] rfl rfl) (Au ?_)
   exact ⟨⟨[_], tm, rfl⟩, tv⟩
  ·refine Al (AN ?_)
   refine AR h (fun v4 => mk [(1, oD (.ptr 1 0)), (31, bD v4)] [(1, .box (Ag p0))]) (fun j4 h => ?_) (fun v4 h => ?_)
   ·refine Ai Az rfl (qf GT rfl (ql A1 rfl (AJ Ax rfl (qm rfl (BZ rfl (qm rfl ?_))))))
    refine Ec 25 h rfl (fun h => ?_) fun h => ?_
    ·refine qw 5 rfl (qp rfl (Ac ?_))
     exact sn [] h
    ·refine qf HO rfl (ql A1 rfl (AJ Ax rfl (qm rfl (BZ rfl (qp rfl (Ac ?_))))))
     exact sn [] h
   ·refine Bd h (fun h => ?_) fun h => ?_
    ·refine wq rfl (qe rfl ?_)
     obtain rfl := sj h
     refine Af (sm [] [(2, iD 6)] [] rfl rfl) (Au ?_)
     exact ⟨⟨[_], tm, rfl⟩, tv⟩
    ·refine Al (wp rfl (qf Bv rfl (ql A1 rfl (AJ Ax rfl (qm rfl (Ac ?_))))))
     refine AH (L := Ca N p0) h (fun v7 => mk [(1, oD (.ptr 1 0)), (33, pD (.sl (p0.fb.map Ap))), (34, iD ((p0.fb.length : Int))), (35, iD v7)] [(1, .box (Ag p0))]) (fun v8 => mk [(1, oD (.ptr 1 0))] [(1, .box (Ag p0))]) (fun _ _ => rfl) (sm [] _ _ rfl rfl) (fun j7 n7 v7 h => ?_) (fun v8 s h hs => ?_)
     ·unfold Ca at h
      refine wq rfl (AT rfl (Ac (AN ?_)))
      refine Bd h (fun h => ?_) fun h => ?_
      ·refine Al (AN (AL (wq rfl (qm rfl ?_))))
       refine BT h fun v10 a10 b10 h => qi Ax Da a10 (Ae b10) rfl (qk BW rfl (qa rfl (qe rfl ?_)))
       refine AR h (fun v11 => mk [(1, oD (.ptr 1 0)), (33, pD (.sl (p0.fb.map Ap))), (34, iD ((p0.fb.length : Int))), (35, iD v7), (65, bD v11)] [(1, .box (Ag p0))]) (fun j11 h => ?_) (fun v11 h => ?_)
       ·refine Ai Az rfl (qm rfl (AT rfl (qm rfl ?_)))
        refine Ec 42 h rfl (fun h => ?_) fun h => ?_
        ·refine qw 2 rfl (qp rfl (qw 9 rfl (qp rfl (qw 9 rfl (qp rfl (Ac ?_))))))
         exact sn [] h
        ·refine qm rfl (Gt rfl (qp rfl (qm rfl ?_)))
         refine Ec 46 h rfl (fun h => ?_) fun h => ?_
         ·refine qw 8 rfl (qp rfl (qw 9 rfl (qp rfl (Ac ?_))))
          exact sn [] h
         ·refine qf GT rfl (ql A1 rfl (qm rfl ?_))
          refine BT h fun v14 a14 b14 h => qi Ax Da a14 (Ae b14) rfl (qk BW rfl (qm rfl ?_))
          refine BY h fun v15 a15 h => Ay [] (HU N v14 v10 v15 a15) T2 rfl (CF rfl (qp rfl (qm rfl ?_)))
          refine Ec 56 h rfl (fun h => ?_) fun h => ?_
          ·refine qw 8 rfl (qp rfl (Ac ?_))
           exact sn [] h
          ·refine qf HO rfl (ql A1 rfl (qm rfl ?_))
           refine BT h fun v17 a17 b17 h => qi Ax Da a17 (Ae b17) rfl (qk BW rfl (qm rfl ?_))
           refine BY h fun v18 a18 h => Ay [] (HU N v17 v10 v18 a18) T2 rfl (CF rfl (qp rfl (Ac ?_)))
           exact sn [] h
       ·refine Bd h (fun h => ?_) fun h => ?_
        ·refine wq rfl (qe rfl ?_)
         obtain rfl := sj h
         refine Af (sm [] [(2, iD 7)] [] rfl rfl) (Au ?_)
         exact ⟨⟨[_], tm, rfl⟩, tv⟩
        ·refine Al (Ai Az rfl (AZ rfl (qm rfl (Ac ?_))))
         exact sn [] h
      ·refine AS ?_
       exact sn [] h
     ·refine Af hs (wp rfl (qf BU rfl (ql Gi rfl (AJ Dc rfl (qm rfl (Ac ?_))))))
      refine AH (L := BS N p0) h (fun v20 => mk [(1, oD (.ptr 1 0)), (68, pD (.sl (p0.fc.map AQ))), (69, iD ((p0.fc.length : Int))), (70, iD v20)] [(1, .box (Ag p0))]) (fun v21 => mk [] []) (fun _ _ => rfl) (sm [] _ _ rfl rfl) (fun j20 n20 v20 h => ?_) (fun v21 s h hs => ?_)
      ·unfold BS at h
       refine wq rfl (AT rfl (Ac (AN ?_)))
       refine Bd h (fun h => ?_) fun h => ?_
       ·refine Al (AN (AL (wq rfl ?_)))
        refine BT h fun v23 a23 b23 h => qi Dc DR a23 (Ae b23) rfl (qK HT DR rfl (qz Kb rfl (qs DR rfl (Ac (wq rfl (qL C0 Cx rfl (qL HT DR rfl ?_)))))))
        refine BY h fun v24 a24 h => Ay [] (PC N p0 v23 v24 a24) Z3 rfl (qa rfl (Ac (wq rfl (qm rfl (BZ rfl (Ac ?_))))))
        refine Bd h (fun h => ?_) fun h => ?_
        ·refine wq rfl (qm rfl (qe rfl ?_))
         obtain rfl := sj h
         refine Af (sm [] [(2, iD v24)] [] rfl rfl) (Au ?_)
         exact ⟨⟨[_], tm, rfl⟩, tv⟩
        ·refine Al (Ai Az rfl (AZ rfl (qm rfl (Ac ?_))))
         exact sn [] h
       ·refine AS ?_
        exact sn [] h
      ·refine Af hs (wq rfl (qe rfl ?_))
       obtain rfl := sj h
       refine Af (sm [] [(2, iD 0)] [] rfl rfl) (Au ?_)
       exact ⟨⟨[_], tm, rfl⟩, tv⟩
theorem CY (N : Nat) (p0 : List Int) (r : (List Int)) (h : Bl N p0 = some r) : Av zA0 66 [pD (.sl (p0.map Ap))] [(1, r.map Ap)] (oD (.own 0)) := by
 unfold Bl at h
 refine cw (n := 8) (rs := [.tmp 2]) Tryz.func66 fun w0 S0 => ?_
 refine wq rfl (qa rfl (Ac (wp rfl (qm rfl ?_))))
 refine Uf (.p rfl) rfl Ax ?_
 refine Ac ?_
 refine Uo rfl (fun c2 => ?_) ?_
 ·have c2 := List.map_eq_nil_iff.1 c2
  rw [c2] at h
  have h : (some (([] : List Int))) = some r := h
  refine wq rfl (qe rfl ?_)
  obtain rfl := sj h
  refine Af ((Ba 2 2001 1 rfl rfl rfl).trans (sm [(1000, 2001)] [(2, oD (.own 1000))] [(1000, .vec 1 ((([] : List Int)).map Ap))] rfl rfl)) (Au ?_)
  exact ⟨⟨[_], tm, rfl⟩, ⟨rfl, tv⟩⟩
 ·refine Al (wq rfl (DI Ax Da JZ rfl (qm rfl ?_)))
  refine Gf h fun c1 h => HC (f := Ap) Ax Ax Da Lt JZ (fun _ => rfl) c1 rfl (qe rfl ?_)
  obtain rfl := sj h
  refine Af (sm [(1000, 7)] [(2, oD (.own 1000))] [(1000, .vec 1 (((([] : List Int)) ++ p0).map Ap))] rfl rfl) (Au ?_)
  exact ⟨⟨[_], tm, rfl⟩, ⟨rfl, tv⟩⟩
theorem MX (N : Nat) (p0 : Int) (p1 : Int) (r : Int × Int) (h : Hk N p0 p1 = some r) : Av zA0 153 [pD (.val (.int .u32 p0)), pD (.val (.int .u32 p1))] [] (.tup [.one (.pure (.val (.int .u32 r.1))), .one (.pure (.val (.int .u32 r.2)))]) := by
 unfold Hk at h
 refine cw (n := 17) (rs := [.tmp 4, .tmp 5]) Tryz.func153 fun w0 S0 => ?_
 refine wq rfl (qa rfl (qa rfl (Ac (wq rfl (qm rfl (Jk T8 Yw rfl (qm rfl (Jk T8 Yw rfl (NJ rfl (qa rfl (Ac (wq rfl (qm rfl (Jv rfl (by decide) (Jk YW Ua rfl (qm rfl (Jk YW Ua rfl (qa rfl (qe rfl ?_)))))))))))))))))))
 obtain rfl := sj h
 refine Af (sm [] [(4, pD (.val (.int .u32 ((wI .u32 ((FI .u64 ((wI .u64 ((wI .u64 p0) * (wI .u64 p1)))) 32))))))), (5, pD (.val (.int .u32 ((wI .u32 ((wI .u64 ((wI .u64 p0) * (wI .u64 p1)))))))))] [] rfl rfl) (Au ?_)
 exact ⟨⟨[_, _], ⟨.tmp _ _ rfl, tm⟩, rfl⟩, tv⟩
theorem Ml (N : Nat) (p0 : Int) (p1 : Int) (r : Int × Int) (h : Hp N p0 p1 = some r) : Av zA0 154 [pD (.val (.int .u64 p0)), pD (.val (.int .u64 p1))] [] (.tup [.one (.pure (.val (.int .u64 r.1))), .one (.pure (.val (.int .u64 r.2)))]) := by
 unfold Hp at h
 refine cw (n := 51) (rs := [.tmp 4, .tmp 5]) Tryz.func154 fun w0 S0 => ?_
 refine wq rfl (qa rfl (qa rfl (Ac (wq rfl (qm rfl (NH rfl (qa rfl (Ac (wq rfl (qm rfl (Jv rfl (by decide) (qa rfl (Ac (wq rfl (qm rfl (NH rfl (qa rfl (Ac (wq rfl (qm rfl (Jv rfl (by decide) (qa rfl (Ac (wq rfl (qw 2 rfl (NJ rfl (qa rfl (Ac (wq rfl (qw 2 rfl ?_))))))))))))))))))))))))))))))
 refine NJ rfl (qm rfl (Jv rfl (by decide) (AZ rfl (qa rfl (Ac (wq rfl (qm rfl (NH rfl (qa rfl (Ac (wq rfl (qm rfl (Jv rfl (by decide) (qa rfl (Ac (wq rfl (qw 3 rfl (NJ rfl (AZ rfl (qa rfl (Ac (wq rfl (qw 2 rfl (NJ rfl (qm rfl (AZ rfl (qm rfl (Jv rfl (by decide) (AZ rfl (qa rfl (Ac (AN ?_))))))))))))))))))))))))))))))))
 refine Ai Az rfl (qw 2 rfl (NJ rfl (qe rfl ?_)))
 obtain rfl := sj h
 refine Af (sm [] [(4, pD (.val (.int .u64 ((wI .u64 ((wI .u64 ((wI .u64 ((FI .u64 p0 32) * (FI .u64 p1 32))) + (FI .u64 ((wI .u64 ((wI .u64 ((FI .u64 p0 32) * (GP .u64 p1 4294967295))) + (FI .u64 ((wI .u64 ((GP .u64 p0 4294967295) * (GP .u64 p1 4294967295)))) 32)))) 32))) + (FI .u64 ((wI .u64 ((GP .u64 ((wI .u64 ((wI .u64 ((FI .u64 p0 32) * (GP .u64 p1 4294967295))) + (FI .u64 ((wI .u64 ((GP .u64 p0 4294967295) * (GP .u64 p1 4294967295)))) 32)))) 4294967295) + (wI .u64 ((GP .u64 p0 4294967295) * (FI .u64 p1 32)))))) 32))))))), (5, pD (.val (.int .u64 ((wI .u64 (p0 * p1))))))] [] rfl rfl) (Au ?_)
 exact ⟨⟨[_, _], ⟨.tmp _ _ rfl, tm⟩, rfl⟩, tv⟩
theorem N8 (N : Nat) (p0 : Int) (p1 : Int) (r : Int × Int) (h : H6 N p0 p1 = some r) : Av zA0 120 [pD (.val (.int .u64 p0)), pD (.val (.int .u64 p1))] [] (.tup [.one (.pure (.val (.int .u64 r.1))), .one (.pure (.val (.int .u64 r.2)))]) := by
 unfold H6 at h
 refine cw (n := 30) (rs := [.tmp 4, .tmp 5]) Tryz.func120 fun w0 S0 => ?_
 refine wq rfl (qa rfl (qa rfl (Ac (AN ?_))))
 refine Bd h (fun h => ?_) fun h => ?_
 ·refine wq rfl (qm rfl (Jk Ui Ua rfl (qm rfl (Jk Ui Ua rfl ?_))))
  refine BY h fun v2 a2 h => Ay [] (MX N ((wI .u32 p0)) ((wI .u32 p1)) v2 a2) aq rfl (qm rfl (qx rfl (qx rfl (qa rfl (qa rfl (Ac (wq rfl (qm rfl (Jk T8 S7 rfl (qm rfl (Jk T8 S7 rfl (qa rfl (qe rfl ?_)))))))))))))
  obtain rfl := sj h
  refine Af (sm [] [(4, pD (.val (.int .u64 ((wI .u64 v2.1))))), (5, pD (.val (.int .u64 ((wI .u64 v2.2)))))] [] rfl rfl) (Au ?_)
  exact ⟨⟨[_, _], ⟨.tmp _ _ rfl, tm⟩, rfl⟩, tv⟩
 ·refine Al (wq rfl (qw 2 rfl ?_))
  refine BY h fun v3 a3 h => Ay [] (Ml N p0 p1 v3 a3) bm rfl (qm rfl (qx rfl (qx rfl (qa rfl (qa rfl (Ac (wq rfl (qw 2 rfl (qa rfl (qe rfl ?_))))))))))
  obtain rfl := sj h
  refine Af (sm [] [(4, pD (.val (.int .u64 v3.1))), (5, pD (.val (.int .u64 v3.2)))] [] rfl rfl) (Au ?_)
  exact ⟨⟨[_, _], ⟨.tmp _ _ rfl, tm⟩, rfl⟩, tv⟩
theorem J1 (N : Nat) (p0 : List Int) (p1 : Int) (r : (List Int)) (h : EG N p0 p1 = some r) : Av zA0 90 [pD (.sl (p0.map Ap)), iD p1] [(1, r.map Ap)] (oD (.own 0)) := by
 unfold EG at h
 refine cw (n := 48) (rs := [.tmp 4]) Tryz.func90 fun w0 S0 => ?_
 refine wq rfl (qe rfl ?_)
 refine AR h (fun v1 => mk [(0, pD (.sl (p0.map Ap))), (1, iD p1)] []) (fun j1 h => ?_) (fun v1 h => ?_)
 ·refine wq rfl (qm rfl (AT rfl (Ac ?_)))
  refine Bd h (fun h => ?_) fun h => ?_
  ·refine Ai Az rfl ?_
   cases h
  ·refine Al ?_
   exact sn [] h
 ·refine wq rfl (qm rfl (AJ Ax rfl (Jk bj S7 rfl (qm rfl (Jk bj S7 rfl ?_)))))
  refine BY h fun v3 a3 h => Ay [] (N8 N ((wI .u64 ((p0.length : Int)))) ((wI .u64 p1)) v3 a3) aH rfl (qm rfl (qx rfl (qx rfl (qa rfl (qe rfl ?_)))))
  refine AR h (fun v4 => mk [(0, pD (.sl (p0.map Ap))), (6, pD (.val (.int .u64 v3.2)))] []) (fun j4 h => ?_) (fun v4 h => ?_)
  ·refine AR h (fun v5 => mk [(0, pD (.sl (p0.map Ap))), (6, pD (.val (.int .u64 v3.2))), (26, bD v5)] []) (fun j5 h => ?_) (fun v5 h => ?_)
   ·refine Ai Az rfl (qm rfl (Gt rfl (qm rfl ?_)))
    refine Ec 23 h rfl (fun h => ?_) fun h => ?_
    ·refine qw 2 rfl (qp rfl (Ac ?_))
     exact sn [] h
    ·refine qm rfl (Gt rfl (qp rfl (Ac ?_)))
     exact sn [] h
   ·refine Bd h (fun h => ?_) fun h => ?_
    ·refine Ai Az rfl ?_
     cases h
    ·refine Al ?_
     exact sn [] h
  ·refine wq rfl (qm rfl (Jk Ui Yh rfl ?_))
   refine Gf h fun c8 h => ND (.p rfl) rfl rfl rfl Ax Da Lt (Ig rfl) JZ rfl rfl rfl c8.1 c8.2.1 c8.2.2 (UE Ap _ ((0 : Int))) ?_
   refine qa rfl (Ac (wq rfl (qw 2 rfl ?_)))
   refine UA Ap (zA2 ((wI .i64 v3.2)).toNat ((0 : Int))) p0 (.p rfl) rfl (Iu Ap _ _ (zA2 ((wI .i64 v3.2)).toNat ((0 : Int)))) rfl rfl (XM Ap _ _ (fun _ => rfl)) tv Ax Da ?_
   refine qa rfl (Ac (AN ?_))
   refine AH (L := D9 N) h (fun v9 => mk [(7, oD (.own 2001)), (8, iD v9.2)] [(2001, .vec 1 (v9.1.map Ap))]) (fun v10 => mk [(7, oD (.own 2002))] [(2002, .vec 1 (v10.map Ap))]) (fun _ _ => rfl) (sm [(2001, 30)] _ _ rfl rfl) (fun j9 n9 v9 h => ?_) (fun v10 s h hs => ?_)
   ·unfold D9 at h
    refine wp rfl (qw 2 rfl (DQ Ax rfl (AT rfl (Ac ?_))))
    refine Bd h (fun h => ?_) fun h => ?_
    ·refine Al (AL (Ai Az rfl (qw 3 rfl ?_)))
     obtain ⟨c12, h⟩ := GE h
     have w13 : ((v9.2).toNat) + ((v9.1.length - (v9.2).toNat)) ≤ v9.1.length := by have := c12.2.1; have := c12.2.2; omega
     refine Jb Ap v9.1 (.p rfl) rfl (Iu Ap _ _ v9.1) rfl Ax Da (.some _ _ _ _ c12.1) (.none _) ⟨rfl, tv⟩ tv c12.2.1 (by rw [zA1]; exact c12.2.2) (zA1 _) rfl ?_
     refine qw 2 rfl ?_
     obtain ⟨c14, h⟩ := GE h
     have w15 : 0 + ((v9.2).toNat) ≤ v9.1.length := by have := c14.2.1; have := c14.2.2; omega
     refine Jb Ap v9.1 (.p rfl) rfl (Iu Ap _ _ v9.1) rfl Ax Da (.none _) (.some _ _ _ _ c14.1) tv ⟨rfl, tv⟩ c14.2.1 (by rw [zA1]; exact c14.2.2) (zA1 _) rfl ?_
     refine UA Ap v9.1 (((v9.1.drop 0).take ((v9.2).toNat))) (.p rfl) rfl (Nl Ap _ _ ((v9.2).toNat) ((v9.1.length - (v9.2).toNat)) v9.1 w13) rfl rfl (U1 Ap _ _ 0 ((v9.2).toNat) v9.1 w15) ⟨rfl, tv⟩ Ax Da ?_
     refine AZ rfl (qa rfl (AK (by kernel_rfl) ?_))
     exact sn [] h
    ·refine AS ?_
     exact sn [(2002, 2001)] h
   ·refine Af hs (wq rfl (qm rfl (qe rfl ?_)))
    obtain rfl := sj h
    refine Af (sm [(1000, 2002)] [(4, oD (.own 1000))] [(1000, .vec 1 (v10.map Ap))] rfl rfl) (Au ?_)
    exact ⟨⟨[_], tm, rfl⟩, ⟨rfl, tv⟩⟩
theorem Ki (N : Nat) (p0 : An) (r : Bool) (h : FL N p0 = some r) : Av zA0 91 [.e (.agg (Be p0))] [] (bD r) := by
 unfold FL at h
 refine cw (n := 11) (rs := [.tmp 2]) Tryz.func91 fun w0 S0 => ?_
 refine wq rfl (qb rfl (qe rfl ?_))
 refine AR h (fun v1 => mk [(2, bD v1)] []) (fun j1 h => ?_) (fun v1 h => ?_)
 ·refine Ai Az rfl (qf F8 rfl (ql BW rfl (BX rfl (qm rfl ?_))))
  refine Ec 6 h rfl (fun h => ?_) fun h => ?_
  ·refine qw 3 rfl (qp rfl (qe rfl ?_))
   exact sn [] h
  ·refine qf F8 rfl (ql BW rfl (BX rfl (qp rfl (qe rfl ?_))))
   exact sn [] h
 ·obtain rfl := sj h
  refine Af (sm [] [(2, bD v1)] [] rfl rfl) (Au ?_)
  exact ⟨⟨[_], tm, rfl⟩, tv⟩
theorem NP (N : Nat) (p0 : Aa) (r : Ab × Int) (h : GH N p0 = some r) : Av zA0 44 [.e (.agg (Ag p0))] [(1, r.1.fd.map Ap), (1, r.1.fa.map Ap), (1, r.1.fe.map C8)] (.tup [.agg [.own 0, .own 1, .own 2], .one (iC r.2)]) := by
 unfold GH at h
 refine cw (n := 50) (rs := [.cell 2 46, .tmp 3]) Tryz.func44 fun w0 S0 => ?_
 refine wq rfl (qb rfl (qz Ci rfl (qa rfl (Ac (wp rfl (qL C0 Cx rfl ?_))))))
 refine BY h fun v1 a1 h => Ay [] (FF N p0 v1 a1) XB rfl (qa rfl (Ac (wq rfl (qm rfl (BZ rfl (Ac ?_))))))
 refine Bd h (fun h => ?_) fun h => ?_
 ·refine wq rfl (A9 Ci Hn rfl (qm rfl (qs AF rfl (qe rfl ?_))))
  obtain rfl := sj h
  refine Af ((As 2 0 2001 1 _ rfl rfl rfl rfl).trans ((As 2 1 2002 1 _ rfl rfl rfl rfl).trans ((As 2 2 2003 1 _ rfl rfl rfl rfl).trans (sm [(1000, 2001), (1001, 2002), (1002, 2003)] [(2, oD (.ptr 2 0)), (3, iD v1)] [(2, .box [.own 1000, .own 1001, .own 1002]), (1000, .vec 1 ((([] : List Int)).map Ap)), (1001, .vec 1 ((([] : List Int)).map Ap)), (1002, .vec 1 ((([] : List Int)).map C8))] rfl rfl)))) (Au ?_)
  exact ⟨⟨[_, _], ⟨.cellN _ _ _ _ _ _ _ rfl rfl A0 AF rfl rfl (ID rfl), tm⟩, rfl⟩, ⟨rfl, rfl, rfl, tv⟩⟩
 ·refine Al (wq rfl (qf GT rfl (ql A1 rfl ?_)))
  refine BY h fun v3 a3 h => Ay [2004] (CY N p0.fh v3 a3) TT rfl (DI Ax Da JZ rfl (qf GT rfl (ql A1 rfl (AJ Ax rfl ?_))))
  refine BY h fun v4 a4 h => Dl [2005] [17] (J1 N (([(-1)] : List Int)) ((p0.fh.length : Int)) v4 a4) cd (H7 (fun _ => rfl) BV) rfl (qf BU rfl (ql Gi rfl (AJ Dc rfl ?_)))
  refine Gf h fun c5 h => ND (.p rfl) rfl rfl rfl Dj F3 R9 (Ig rfl) OY rfl rfl rfl c5.1 c5.2.1 c5.2.2 (UE C8 _ ((0 : Int))) ?_
  refine A9 Ci Hn rfl (qz Ci rfl (qs AF rfl (AK (by kernel_rfl) (wp rfl (qf BU rfl (ql Gi rfl (AJ Dc rfl (qm rfl (Ac ?_)))))))))
  refine AH (L := Es N p0) h (fun v6 => mk [(1, oD (.ptr 1 0)), (2, oD (.ptr 2 0)), (5, oD (.ptr 5 0)), (28, pD (.sl (p0.fc.map AQ))), (29, iD ((p0.fc.length : Int))), (30, iD v6.2)] [(1, .box (Ag p0)), (2, .box [.pure (.nil0), .pure (.nil0), .pure (.nil0)]), (5, .box [.own 2006, .own 2007, .own 2008]), (2006, .vec 1 (v3.map Ap)), (2007, .vec 1 (v4.map Ap)), (2008, .vec 1 (v6.1.map C8))]) (fun v7 => mk [(2, oD (.ptr 2 0)), (5, oD (.ptr 5 0))] [(2, .box [.pure (.nil0), .pure (.nil0), .pure (.nil0)]), (5, .box [.own 2009, .own 2010, .own 2011]), (2009, .vec 1 (v3.map Ap)), (2010, .vec 1 (v4.map Ap)), (2011, .vec 1 (v7.map C8))]) (fun _ _ => rfl) (sm [(2006, 2004), (2007, 2005), (2008, 25)] _ _ rfl rfl) (fun j6 n6 v6 h => ?_) (fun v7 s h hs => ?_)
  ·unfold Es at h
   refine wq rfl (AT rfl (Ac (AN ?_)))
   refine Bd h (fun h => ?_) fun h => ?_
   ·refine Al ?_
    refine AR h (fun v9 => mk [(1, oD (.ptr 1 0)), (2, oD (.ptr 2 0)), (5, oD (.ptr 5 0)), (28, pD (.sl (p0.fc.map AQ))), (29, iD ((p0.fc.length : Int))), (30, iD v6.2)] [(1, .box (Ag p0)), (2, .box [.pure (.nil0), .pure (.nil0), .pure (.nil0)]), (5, .box [.own 2012, .own 2013, .own 2014]), (2012, .vec 1 (v3.map Ap)), (2013, .vec 1 (v4.map Ap)), (2014, .vec 1 (v9.map C8))]) (fun j9 h => ?_) (fun v9 h => ?_)
    ·refine AL (wq rfl (qm rfl ?_))
     refine BT h fun v10 a10 b10 h => qi Dc DR a10 (Ae b10) rfl (qK HT DR rfl (qz Kb rfl (qa rfl (qs DR rfl (Ac (wq rfl (qL HT DR rfl ?_)))))))
     refine BY h fun v11 a11 h => Ay [] (Ki N v10 v11 a11) ZK rfl (Ac ?_)
     refine Bd h (fun h => ?_) fun h => ?_
     ·refine Ai Az rfl (qf CI rfl (ql Hg rfl (qm rfl (qf GT rfl (ql A1 rfl (qf Dk rfl (ql BW rfl ?_)))))))
      refine BT h fun v13 a13 b13 h => qi Ax Da a13 (Ae b13) rfl (qk BW rfl ?_)
      refine Gf h fun c14 h => Jq rfl c14 ?_
      refine BT h fun v15 a15 b15 h => qI Dj F3 a15 (Ae b15) rfl ?_
      refine EH rfl rfl rfl rfl (Ae b15) rfl F3 rfl (Ig rfl) (Ej C8 v6.1 _ ((Ee .u8 1 v13))) ?_
      refine AK (by kernel_rfl) ?_
      exact sn [(2012, 2006), (2013, 2007), (2014, 2008)] h
     ·refine Al ?_
      exact sn [(2012, 2006), (2013, 2007), (2014, 2008)] h
    ·refine Ai Az rfl (AZ rfl (qm rfl (Ac ?_)))
     exact sn [(2006, 2012), (2007, 2013), (2008, 2014)] h
   ·refine AS ?_
    exact sn [(2009, 2006), (2010, 2007), (2011, 2008)] h
  ·refine Af hs (wq rfl (qL A0 AF rfl (qs AF rfl (qe rfl ?_))))
   obtain rfl := sj h
   refine Af (sm [(1000, 2009), (1001, 2010), (1002, 2011)] [(2, oD (.ptr 2 0)), (3, iD 0)] [(2, .box [.own 1000, .own 1001, .own 1002]), (1000, .vec 1 (v3.map Ap)), (1001, .vec 1 (v4.map Ap)), (1002, .vec 1 (v7.map C8))] rfl rfl) (Au ?_)
   exact ⟨⟨[_, _], ⟨.cellN _ _ _ _ _ _ _ rfl rfl A0 AF rfl rfl (ID rfl), tm⟩, rfl⟩, ⟨rfl, rfl, rfl, tv⟩⟩
theorem JF (N : Nat) (p0 : Ab) (p1 : Int) (r : Int) (h : Fh N p0 p1 = some r) : Av zA0 107 [.e (.agg (AB p0)), iD p1] [] (pD (.val (.int .u8 r))) := by
 unfold Fh at h
 refine cw (n := 27) (rs := [.tmp 4]) Tryz.func107 fun w0 S0 => ?_
 refine wq rfl (qb rfl (qa rfl (Ac (wq rfl (qf CE rfl (ql A1 rfl (qm rfl ?_)))))))
 refine BT h fun v1 a1 b1 h => qi Ax Da a1 (Ae b1) rfl (qk BW rfl ?_)
 refine Gf h fun c2 h => Jq rfl c2 (qe rfl ?_)
 refine AR h (fun v3 => mk [(5, pD (.val (.int .u8 v3)))] []) (fun j3 h => ?_) (fun v3 h => ?_)
 ·refine wq rfl (qf Br rfl (ql A1 rfl (qm rfl ?_)))
  refine BT h fun v4 a4 b4 h => qi Ax Da a4 (Ae b4) rfl (qk BW rfl (ET rfl (Ac ?_)))
  refine Bd h (fun h => ?_) fun h => ?_
  ·refine Ai Az rfl (qm rfl (qf Br rfl (ql A1 rfl (qm rfl ?_))))
   refine BT h fun v6 a6 b6 h => qi Ax Da a6 (Ae b6) rfl (qk BW rfl ?_)
   refine Gf h fun c7 h => Jq rfl c7 (WB rfl (qe rfl ?_))
   exact sn [] h
  ·refine Al ?_
   exact sn [] h
 ·refine wq rfl (qm rfl (qe rfl ?_))
  obtain rfl := sj h
  refine Af (sm [] [(4, pD (.val (.int .u8 v3)))] [] rfl rfl) (Au ?_)
  exact ⟨⟨[_], tm, rfl⟩, tv⟩
end Go.Lift
