/- Lemmas for CoreCertificateCardSaid, which YtbfklmmnpdifaaaGreatDoorFinC8 proves. -/
import Derived.Test.YtbfklmmnpdifaaaGreatDoorLift40
import Derived.MakeChecks
import Derived.Shelf.Strconv.Itoa3
import Derived.Shelf.Spec.TrailingZeros
import Derived.Shelf.SlLaysF
import Derived.Test.YtbfklmmnpdifaaaGreatDoorProg
import Derived.KernelRfl
open Array renaming getElem?_eq_some_iff → zK1
open Bool renaming and_eq_true → zA6, or_eq_true → zG0
open Int renaming eq_ofNat_of_zero_le → zA7, tmod → zB8
open List renaming all_eq_true → zA4, append → zE4, getElem?_map → zA3, getElem_mem → zG1, length_map → zA8, map_eq_nil_iff → zH3, mem_cons → zB1, mem_cons_of_mem → zH0, mem_map → zB6, pairwise_cons → zF1, pairwise_iff_getElem → zH9, pairwise_map → zK2, replicate → zA5
open Nat renaming add_zero → zG4, le_refl → zB0, min → zE9, zero_add → zA1, zero_le → zA9
open Option renaming getD_some → zC9, map_some → zE7
open Go.Proofs.Tryz renaming prog → zA0
namespace Go.Lift
open Go.RowKit Go.Shelf
section
variable {α : Type}
def YV (cmp : α × α → Option Int) (x : α) : List α → List α
 | [] => [x]
 | y :: ys => match cmp (x, y) with
  | some a => if a ≤ 0 then x :: y :: ys else y :: YV cmp x ys
  | none => x :: y :: ys
def Xk (cmp : α × α → Option Int) (xs : List α) : List α := xs.foldr (YV cmp) []
def Xv (cmp : α × α → Option Int) (bq : α → α → Bool) (y z : α) : Bool := match cmp (y, z), cmp (z, y) with
 | some a, some b => (decide (a < 0) && decide (0 < b)) || (bq y z && decide (a = 0) && decide (b = 0))
 | _, _ => false
def ek (cmp : α × α → Option Int) (bq : α → α → Bool) : List α → Bool
 | [] => true
 | y :: ys => (match cmp (y, y) with | some a => decide (a = 0) | none => false) && ys.all (Xv cmp bq y) && ek cmp bq ys
def Vq (cmp : α × α → Option Int) (bq : α → α → Bool) (xs : List α) : Option (List α) :=
 if ek cmp bq (Xk cmp xs) && decide (xs.length < 4611686018427387904) then some (Xk cmp xs) else none
theorem Rp (cmp : α × α → Option Int) (x : α) : ∀ l : List α, (YV cmp x l).Perm (x :: l)
 | [] => List.Perm.refl _
 | y :: ys => by
  unfold YV
  split
  ·split
   ·exact List.Perm.refl _
   ·exact ((Rp cmp x ys).cons y).trans (List.Perm.swap x y ys)
  ·exact List.Perm.refl _
theorem Ri (cmp : α × α → Option Int) : ∀ l : List α, (Xk cmp l).Perm l
 | [] => List.Perm.refl _
 | x :: l => (Rp cmp x (Xk cmp l)).trans ((Ri cmp l).cons x)
theorem Yb {cmp : α × α → Option Int} {bq : α → α → Bool} (hq : ∀ x y, bq x y = true → x = y) {y z : α} (h : Xv cmp bq y z = true) :
  ∃ a b, cmp (y, z) = some a ∧ cmp (z, y) = some b ∧ (UY (fun x y => (cmp (x, y)).getD 0) y z ∨ y = z) := by
 unfold Xv at h
 split at h
 ·rename_i a b e1 e2
  refine ⟨a, b, e1, e2, ?_⟩
  rw [zG0] at h
  rcases h with h | h
  ·rw [zA6] at h
   exact .inl ⟨by show (cmp (y, z)).getD 0 < 0; rw [e1]; exact of_decide_eq_true h.1, by show 0 < (cmp (z, y)).getD 0; rw [e2]; exact of_decide_eq_true h.2⟩
  ·rw [zA6, zA6] at h
   exact .inr (hq _ _ h.1.1)
 ·cases h
theorem Vt {cmp : α × α → Option Int} {bq : α → α → Bool} (hq : ∀ x y, bq x y = true → x = y) : ∀ {l : List α}, ek cmp bq l = true →
  (∀ x y, x ∈ l → y ∈ l → cmp (x, y) = some ((cmp (x, y)).getD 0)) ∧ NS (fun x y => (cmp (x, y)).getD 0) (· ∈ l) ∧ l.Pairwise (fun x y => ¬ (cmp (y, x)).getD 0 < 0)
 | [], _ => ⟨fun x y h => by simp at h, ⟨fun x h => by simp at h, fun x y h => by simp at h, fun x y z h => by simp at h⟩, List.Pairwise.nil⟩
 | y0 :: ys, h => by
  unfold ek at h
  rw [zA6, zA6, zA4] at h
  obtain ⟨⟨h0, h1⟩, h2⟩ := h
  obtain ⟨i1, i2, i3⟩ := Vt hq h2
  have hs : cmp (y0, y0) = some 0 := by
   split at h0
   ·rename_i a e; rw [e, of_decide_eq_true h0]
   ·cases h0
  have hp := fun z hz => Yb hq (h1 z hz)
  have self : ∀ x, x ∈ y0 :: ys → (cmp (x, x)).getD 0 = 0 := fun x hx => by
   rcases zB1.1 hx with e | e
   ·subst e; rw [hs]; rfl
   ·exact i2.self x e
  have asy : ∀ x z, UY (fun x y => (cmp (x, y)).getD 0) x z → UY (fun x y => (cmp (x, y)).getD 0) z x → False := fun x z a b => NS.asym a b
  have first : ∀ z, z ∈ y0 :: ys → y0 = z ∨ UY (fun x y => (cmp (x, y)).getD 0) y0 z := fun z hz => by
   rcases zB1.1 hz with e | e
   ·exact .inl e.symm
   ·obtain ⟨a, b, _, _, g⟩ := hp z e; exact g.symm
  refine ⟨fun x y hx hy => ?_, ⟨self, fun x y hx hy => ?_, fun x y z hx hy hz a b => ?_⟩, zF1.2 ⟨fun z hz => ?_, i3⟩⟩
  ·rcases zB1.1 hx with e | e
   ·subst e
    rcases zB1.1 hy with f | f
    ·subst f; rw [hs]; rfl
    ·obtain ⟨a, b, g, _⟩ := hp y f; rw [g]; rfl
   ·rcases zB1.1 hy with f | f
    ·subst f; obtain ⟨a, b, _, g, _⟩ := hp x e; rw [g]; rfl
    ·exact i1 x y e f
  ·rcases zB1.1 hx with e | e
   ·subst e; rcases first y hy with f | f
    ·exact .inl f
    ·exact .inr (.inl f)
   ·rcases zB1.1 hy with f | f
    ·subst f; rcases first x hx with g | g
     ·exact .inl g.symm
     ·exact .inr (.inr g)
    ·exact i2.tri x y e f
  ·have nofirst : ∀ u, u ∈ y0 :: ys → UY (fun x y => (cmp (x, y)).getD 0) u y0 → False := fun u hu a => by
    rcases first u hu with f | f
    ·subst f; exact asy _ _ a a
    ·exact asy _ _ a f
   rcases zB1.1 hy with f | f
   ·subst f; exact (nofirst x hx a).elim
   rcases zB1.1 hz with g | g
   ·subst g; exact (nofirst y hy b).elim
   rcases zB1.1 hx with e | e
   ·subst e
    rcases first z hz with q | q
    ·subst q; exact (asy _ _ a b).elim
    ·exact q
   ·exact i2.trans x y z e f g a b
  ·rcases first z (zH0 _ hz) with f | f
   ·subst f; rw [hs]; simp
   ·have := f.2; simp only at this; omega
theorem XD {cmp : α × α → Option Int} {bq : α → α → Bool} (hq : ∀ x y, bq x y = true → x = y) {xs ys : List α} (h : Vq cmp bq xs = some ys) :
  (∀ x y, x ∈ xs → y ∈ xs → cmp (x, y) = some ((cmp (x, y)).getD 0)) ∧ NS (fun x y => (cmp (x, y)).getD 0) (· ∈ xs) ∧ ys.Perm xs ∧ ys.Pairwise (fun x y => ¬ (cmp (y, x)).getD 0 < 0) ∧ xs.length < 4611686018427387904 := by
 unfold Vq at h
 split at h
 ·rename_i hc
  rw [zA6] at hc
  cases h
  have hp := Ri cmp xs
  obtain ⟨h1, h2, h3⟩ := Vt hq hc.1
  have hm : ∀ x, x ∈ xs → x ∈ Xk cmp xs := fun x hx => hp.mem_iff.2 hx
  exact ⟨fun x y hx hy => h1 x y (hm x hx) (hm y hy), ⟨fun x hx => h2.self x (hm x hx), fun x y hx hy => h2.tri x y (hm x hx) (hm y hy), fun x y z hx hy hz => h2.trans x y z (hm x hx) (hm y hy) (hm z hz)⟩, hp, h3, of_decide_eq_true hc.2⟩
 ·cases h
end
end Go.Lift
namespace Go.Lift
open Option renaming bind_some → oS
open Go.RowKit Go.ChangeShapes Go.WideShapes
variable {P : Program} {X : Jm} {ops : Array Oper}
section run
variable {dr : Bool} {Q : St → Prop} {r i : Nat} {st : St} {log : List (Nat × C5)} {o : Oper} {gs : List (Operand × D)}
end run
theorem bN {W : World} (h : ∀ x, x ∈ O6 → ∀ g, P.globalNamed x.1 = some g → Lib.TabIs P W x.1 x.2.1 x.2.2) : YJ P W (U4 W) := fun x hx g hg => by
 have h1 := h x hx g hg
 refine ⟨?_, h1⟩
 unfold Lib.TabIs World.var? at h1
 rw [hg, oS] at h1
 show g < W.heap.size
 split at h1
 ·rename_i e; exact (zK1.1 e).1
 ·cases h1
theorem T9 {H : Type} {enc : TypeId × Value → H} {C : Checked} {os : Os} {f : FuncId} {fn : Func} {s : ChangeSpec} {conds : List PathCond} {tb : TypeId} {d : Nat} {laid : List (String × DataW Unit)}
  (own : ownKnob C.prog.godebug = none) (started : os.Started) (noInit : C.prog.inits.idxOf? f = none) (hfn : C.prog.funcs[f]? = some fn)
  (witness : ∃ (w : World) (tape : Tape) (i : Input), w.os = os ∧ (w.forCall tape i).Shaped C.prog ∧ i.vars = [] ∧ Input.okWide C.prog (w.forCall tape i) .any w.heap.size f i ∧
   ((s.pre enc C.prog fn conds false (w.forCall tape i).memory i.args ∧ laidMetH C.prog laid (w.forCall tape i).memory) ∧ sizedMet enc C.prog fn (OpenSpec.ofChange s) false (w.forCall tape i).memory i.args) ∧ ({} : Assume).holds C.prog (lone (Frame.enter C.prog f i.args .normal) [] (w.forCall tape i)))
  (hv : s.vars = []) (hs : ∀ ds : List (DataW H), ds.length = fn.params.toList.length → s.fn H (ds ++ []) = { results := [.lit (.bool true)], args := ds })
  (hres : fn.resultTypes = #[tb]) (htb : C.prog.underlying tb = some .bool) (hl : laidOutB C.prog = true)
  (hread : (fn.params.toList.all fun t => C.prog.readableRec t && decide (t < C.prog.types.size)) = true) (hplain : (fn.params.toList.all (Kz C.prog d)) = true)
  (law : ∀ Ds, Ls C.prog d fn.params.toList Ds → An C.prog f Ds [] (.e (.one (.pure (.val (.bool true))))))
  (hp : (laid.all fun x => x.2.handleName?.isNone) = true) (hgk : ∀ W, laidMet C.prog laid W → YJ C.prog W (U4 W)) :
  ReturnsInHanded {} C os f .any (fun w args => (s.pre enc C.prog fn conds false w args ∧ laidMetH C.prog laid w) ∧ sizedMet enc C.prog fn (OpenSpec.ofChange s) false w args) (s.post enc C.prog fn false true false false) := by
 refine returnsInHanded_of_change_and (X := fun w _ => laidMetH C.prog laid w) (fun _ _ _ hh h => by rw [MakeChecks.laidMetH_plain _ _ _ hp] at h ⊢; exact h.of_heap hh) own started noInit hfn witness ?_
 intro W base args ds gs before hval hW _ _ hL _
 rw [MakeChecks.laidMetH_plain _ _ _ hp] at hL
 have hW' := hW
 obtain ⟨p, q, hA, hV, rfl, _, _⟩ := hW
 rw [hv] at hV
 obtain ⟨rfl, rfl⟩ := trodVars_none hV
 obtain ⟨Ds, h1, h2, h3, h4⟩ := V4 hplain (fun j t v hj hvj => hval j t v (by simpa using hj) (by simpa using hvj)) hA
 have hlt : ∀ x ∈ p, x.block < W.heap.size := fun x hx => hW'.lt x (by simp [hx])
 refine (law Ds h1 W (U4 W) args (fun β h => h) (hgk W hL) (by simpa using h2) ?_).mono ?_
 ·intro j x hj
  obtain ⟨v, g1, g2⟩ := h4 j x hj
  have : Ay args j = v := by unfold Ay; rw [show args[j]? = some v from by simpa using g1]; rfl
  rw [this]; exact g2
 ·rintro e W' ⟨v, G', rfl, hb, _, _, hr, _⟩
  have hvb : v = .bool true := by
   have h5 : D3 W' G'.S v (.val (.bool true)) := hr
   cases h5; rfl
  subst hvb
  refine ⟨_, rfl, ds, [], p ++ [], [], p, [], hW', ?_, ?_, ?_, hb.frame _, fun h => by cases h⟩
  ·rw [hs ds h3, hres]
   exact trodAll_mk1 (shut_bool htb true)
  ·rw [hs ds h3]
   exact M2 hl hb.toBelow hread hA hlt
  ·rw [hs ds h3, hv]
   rfl
end Go.Lift
namespace Go.Lift
open Go.RowKit Go.Shelf
end Go.Lift
namespace Go.Lift
open Go.RowKit
variable {P : Program} {X : Jm}
end Go.Lift
namespace Go.Lift
open Go.RowKit
variable {P : Program} {X : Jm} {ops : Array Oper}
section run
variable {dr : Bool} {Q : St → Prop} {r i : Nat} {st : St} {log : List (Nat × C5)} {o : Oper} {gs : List (Operand × D)}
end run
end Go.Lift
namespace Go.Lift
open Go.RowKit Go.Shelf
def eU (n : Int) : Option Int := if 0 ≤ n ∧ n < 18446744073709551616 then some (Lib.ctz 64 n.toNat) else none
theorem fp {P : Program} {ρ : Ren} (L : Go.Proofs.Lays7.n27 P ρ) (hg : P.globalNamed "math/bits.deBruijn64tab" = some (ρ.g 1)) {n r : Int} (h : eU n = some r) :
  An P (ρ.f 27) [.e (.one (.pure (.val (.int .u64 n))))] [] (.e (.one (.pure (.val (.int .i64 r))))) := by
 intro w S vs hS hgk hlen hrd
 have h0 : D3 w S (Ay vs 0) (.val (.int .u64 n)) := hrd 0 _ rfl
 have hv : Ay vs 0 = .int .u64 n := Fn h0
 have hvs : vs = #[.int .u64 n] := by
  have h2 : vs.size = 1 := hlen
  apply Array.ext (by simp [h2])
  intro i h1 _
  match i, h1 with
  | 0, h1 => rw [← hv]; simp [Ay, h1]
  | i + 1, h1 => omega
 unfold eU at h
 split at h
 ·rename_i hb
  cases h
  obtain ⟨m, rfl⟩ := zA7 hb.1
  have ht : Lib.TabIs P w "math/bits.deBruijn64tab" .u8 V6 := (hgk ("math/bits.deBruijn64tab", .u8, V6) (by simp [O6]) _ hg).2
  have htab : Go.Proofs.TabAt (ρ.g 1) Lib.deBruijn64tab w := fun j hj => by
   rw [ht.cell hg j (by simpa [V6, Lib.deBruijn64tab] using hj)]
   have key : ∀ j, j < 64 → V6.getD j 0 = ((Lib.deBruijn64tab.getD j 0 : Nat) : Int) := by decide +kernel
   rw [key j (by simpa [Lib.deBruijn64tab] using hj)]
  rw [hvs]
  refine (Go.Proofs.Any7.bits_TrailingZeros L m (by omega) w fun _ => htab).mono ?_
  rintro e w' ⟨rfl, rfl⟩
  exact ⟨_, G0 S, rfl, ⟨⟨rfl, rfl, rfl, zB0 _, fun i _ => rfl⟩, zB0 _⟩, fun _ h => h, fun _ h => .inl h, .val _ rfl, fun i x hi => by simp at hi, fun i β hi => by simp at hi, fun i l β hi => by simp at hi⟩
 ·cases h
end Go.Lift
namespace Go.Lift
open Go.RowKit Go.Shelf
section
variable {P : Program} {ρ : Ren} {α : Type}
theorem Qu {β' : Type} [Inhabited β'] (enc : β' → Value) (w : World) (β m : Nat) (d : Array β') (os : Array Obj) {γ : Nat} (h : γ < w.heap.size) (hne : γ ≠ β) : (Go.Proofs.sortWorld enc w β 0 m d os).heap[γ]? = w.heap[γ]? := by
 unfold Go.Proofs.sortWorld Go.Sort.grow Go.Sort.putRow Go.Sort.mapBlock Go.Sort.ahead
 simp only
 rw [Array.getElem?_append, if_pos (by simpa using h), Array.getElem?_modify, if_neg (Ne.symm hne)]
theorem To {β' : Type} [Inhabited β'] (enc : β' → Value) (w : World) (β m : Nat) (d : Array β') (os : Array Obj) {arr : Array Value} {el : TypeId} {fz : Nat × Nat} (h : w.heap[β]? = some (.cells arr el fz)) : (Go.Proofs.sortWorld enc w β 0 m d os).heap[β]? = some (.cells (Go.Sort.putCells enc 0 d arr) el fz) := by
 unfold Go.Proofs.sortWorld Go.Sort.grow Go.Sort.putRow Go.Sort.mapBlock Go.Sort.ahead
 simp only
 have hlt : β < w.heap.size := (zK1.1 h).1
 rw [Array.getElem?_append, if_pos (by simpa using hlt), Array.getElem?_modify, if_pos rfl, h]
 rfl
theorem P6 {β' : Type} [Inhabited β'] (enc : β' → Value) (w : World) (β m : Nat) (d : Array β') (os : Array Obj) : w.heap.size ≤ (Go.Proofs.sortWorld enc w β 0 m d os).heap.size := by
 unfold Go.Proofs.sortWorld Go.Sort.grow Go.Sort.putRow Go.Sort.mapBlock Go.Sort.ahead
 simp
theorem SX (L : Go.Proofs.SlLaysF.n6 P ρ) {e : α → List T} {t : α → T} (he : ∀ x, e x = [t x]) {g : List (Bool × List T) → Option T} {c : α → α → Int} {xs ys : List α}
  (hg : ∀ x y, x ∈ xs → y ∈ xs → g [(false, e x), (false, e y)] = some (.val (.int .i64 (c x y)))) (O : NS c (· ∈ xs)) (hp : ys.Perm xs) (hs : ys.Pairwise fun x y => ¬ c y x < 0) (hl : xs.length < 4611686018427387904) :
  EP P (ρ.f 6) [.e (.one (.own 90000)), .e (.one (.clo g))] [(.vec 1 (xs.map e), .vec 1 (ys.map e))] [] (.tup []) := by
 intro w G vs hS hgk hlb hla hli hlen hrd
 have hb := hlb 0 _ rfl
 have h0 : Fd P w G (Ay vs 0) (.own 90000) := hrd 0 _ rfl
 obtain ⟨f, caps, hv, ⟨fn, hf1, hf2, hf3⟩, hcall⟩ : N9 P w G.S (Ay vs 1) g := hrd 1 _ rfl
 have hvs : vs = #[Ay vs 0, Ay vs 1] := by
  have h2 : vs.size = 2 := hlen
  apply Array.ext (by simp [h2])
  intro i h1 _
  match i, h1 with
  | 0, h1 => simp [Ay, h1]
  | 1, h1 => simp [Ay, h1]
  | i + 2, h1 => omega
 have hys : ys.length = xs.length := hp.length_eq
 rw [hvs, h0.1, hv]
 by_cases hx0 : xs = []
 ·subst hx0
  have hy : ys = [] := List.perm_nil.1 hp
  subst hy
  obtain ⟨p, cap, hh⟩ : ∃ p cap, G.hd 90000 = .slice p 0 cap := by
   rcases hb with ⟨a, b1, _, _⟩ | ⟨β, cap, arr, el, _, b1, _⟩
   ·exact ⟨_, _, b1⟩
   ·exact ⟨_, _, b1⟩
  rw [hh]
  refine (Go.Proofs.AnyF.slices_SortFunc_none { L with } p cap _ w).mono ?_
  rintro e' w' ⟨rfl, rfl⟩
  refine ⟨_, G, rfl, DJ.refl _ _ _, fun _ h => h, fun _ h => .inl h, ⟨#[], rfl, rfl, fun j x hj => by simp at hj⟩, fun i x hi => ?_, fun i x hi => by simp at hi, fun _ _ => ⟨rfl, rfl, rfl⟩, fun i β hi h => (hla i β hi h).2, fun i β hi => by simp at hi, fun i l β hi => by simp at hi⟩
  match i, hi with
  | 0, hi => cases hi; exact hb
  | i + 1, hi => simp at hi
 ·rcases hb with ⟨a, b1, b2, b3⟩ | ⟨β, cap, arr, el, b0, b1, b2, b3, b4, b5, b6⟩
  ·exact absurd (zH3.1 b2) hx0
  ·have hβ : β < w.heap.size ∧ ¬ G.S β := hla 0 β (by simp) (.inl b0)
   rw [Nat.mul_one] at b4
   have b3' : xs.length ≤ cap := by simpa using b3
   let A := { p : Value × α // p.2 ∈ xs ∧ D3 w G.S p.1 (t p.2) }
   let at' : Fin xs.length → A := fun i => ⟨(Ay arr i.1, xs[i.1]), zG1 i.2, by
    have := b6 i.1 (e xs[i.1]) 0 (t xs[i.1]) (by simp) (by rw [he]; rfl)
    simpa using this⟩
   have hpos : 0 < xs.length := List.length_pos_iff.2 hx0
   letI : Inhabited A := ⟨at' ⟨0, hpos⟩⟩
   let d : Array A := Array.ofFn at'
   have hds : d.size = xs.length := by simp [d]
   have hdg : ∀ i (h : i < xs.length), d[i]! = at' ⟨i, h⟩ := fun i h => by rw [getElem!_pos d i (by omega)]; simp [d]
   have hdl : d.toList.map (fun x => x.1.2) = xs := by
    apply List.ext_getElem
    ·simp [hds]
    ·intro i h1 h2
     simp [d, at']
   let enc : A → Value := fun x => x.1.1
   have h1c : Go.Proofs.OneCell enc := by
    intro x
    have := (x.2.2).one
    revert this
    show Hq (enc x) = true → _
    generalize enc x = q
    intro h
    cases q <;> first | rfl | cases h
   let cf : A → A → Int := fun x y => c x.1.2 y.1.2
   have hlt : ∀ x y : A, Go.Proofs.ltOf cf x y = decide (c x.1.2 y.1.2 < 0) := fun _ _ => rfl
   have hO : Go.Sort.SWO (Go.Proofs.ltOf cf) := by
    refine ⟨fun x => ?_, fun x y z => ?_, fun x y z => ?_⟩
    ·rw [hlt, O.self _ x.2.1]; rfl
    ·rw [hlt, hlt, hlt]; intro h1 h2
     have h1 := (O.lt x.2.1 y.2.1).1 (of_decide_eq_true h1)
     have h2 := (O.lt y.2.1 z.2.1).1 (of_decide_eq_true h2)
     exact decide_eq_true (O.trans _ _ _ x.2.1 y.2.1 z.2.1 h1 h2).1
    ·rw [hlt, hlt, hlt]; intro h1 h2
     exact decide_eq_false (O.ntrans x.2.1 y.2.1 z.2.1 (of_decide_eq_false h1) (of_decide_eq_false h2))
   have eg : ∀ args w, (callFunc f args).run P w = .ok (.enter f args) w := JE (by unfold AA; rw [hf1]; simp [hf2]; simpa using hf3)
   have hsame : ∀ (m : Nat) (dk : Array A) (os : Array Obj) (γ : Nat), G.S γ → (Go.Proofs.sortWorld enc w β 0 m dk os).heap[γ]? = w.heap[γ]? := fun m dk os γ hγ => Qu enc w β m dk os (hS γ hγ) (fun q => hβ.2 (q ▸ hγ))
   have hcmp : Go.Proofs.CmpLays1 P f caps enc cf β 0 d.size w := by
    intro m os dk hdk x y
    refine (hcall _ G.S (fun _ h => h) (hsame m dk os) (fun γ hγ => Nat.lt_of_lt_of_le (hS γ hγ) (P6 enc w β m dk os)) (hgk.mono (hsame m dk os) (fun _ h => h)) #[enc x, enc y] [(false, e x.1.2), (false, e y.1.2)] (.val (.int .i64 (c x.1.2 y.1.2))) rfl ?_ (hg _ _ x.2.1 y.2.1)).mono ?_
    ·have one : ∀ z : A, aP (Go.Proofs.sortWorld enc w β 0 m dk os) G.S (enc z) (false, e z.1.2) := fun z => ⟨_, he _, z.2.2.mono (hsame m dk os) (fun _ h => h)⟩
     intro j q hq
     match j, hq with
     | 0, hq => cases hq; exact one x
     | 1, hq => cases hq; exact one y
     | j + 2, hq => simp at hq
    ·rintro e' w'' ⟨v', S'', rfl, hbel, _, _, hr⟩
     cases hr
     exact ⟨rfl, W0 hbel⟩
   have hH : Go.Sort.Holds enc w β 0 d := by
    intro j hj
    have hj' : j < xs.length := by rw [← hds]; exact hj
    have hsz : j < arr.size := by omega
    rw [hdg _ hj', zA1]
    exact ⟨by simp [World.cell?, b2, Jb hsz, enc, at'], by simp [World.frozen?, b2]⟩
   have hhd : G.hd 90000 = .slice (some ⟨β, 0, none⟩) d.size cap := by rw [b1, hds, zA8]
   rw [hhd]
   refine (Go.Proofs.Any.slices_SortFunc L enc h1c cf hO f caps β 0 cap d w eg hcmp hH hβ.1 (by rw [hds]; exact hl)).mono ?_
   rintro e' w' ⟨rfl, d', n, os, hpm, hsd, rfl⟩
   have hds' : d'.size = d.size := hpm.1
   have hpl : d'.toList.Perm d.toList := by
    have h := hpm.2.2
    have e1 : (d'.extract 0 d.size).toList = d'.toList := by rw [← hds']; simp
    have e2 : (d.extract 0 d.size).toList = d.toList := by simp
    rwa [e1, e2] at h
   have hlist : d'.toList.map (fun x => x.1.2) = ys := by
    refine VH (c := c) _ _ (fun x y hx hy h1 h2 => ?_) (((hpl.map _).trans (by rw [hdl])).trans hp.symm) ?_ hs
    ·obtain ⟨a, _, rfl⟩ := zB6.1 hx
     obtain ⟨b, _, rfl⟩ := zB6.1 hy
     exact O.eq a.2.1 b.2.1 h1 h2
    ·rw [zK2, zH9]
     intro i j hi hj hij
     have := hsd i j (zA9 _) hij (by rw [← hds']; simpa using hj)
     rw [getElem!_pos d' i (by simpa using hi), getElem!_pos d' j (by simpa using hj), hlt] at this
     simpa using of_decide_eq_false this
   have hat : (Go.Proofs.sortWorld enc w β 0 n d' os).heap[β]? = some (.cells (Go.Sort.putCells enc 0 d' arr) el (0, 0)) := To enc w β n d' os b2
   have hlen' : d'.size = ys.length := by rw [hds', hds, hys]
   refine ⟨_, G, rfl, ⟨rfl, rfl, rfl, P6 enc w β n d' os, by show w.drawn ≤ w.drawn + n; omega, fun γ hγ hL => Qu enc w β n d' os hγ fun q => hL ⟨0, by simp, .inl (q ▸ b0)⟩⟩, fun _ h => h, fun _ h => .inl h, ⟨#[], rfl, rfl, fun j x hj => by simp at hj⟩, fun i x hi => ?_, fun i x hi => by simp at hi, fun _ _ => ⟨rfl, rfl, rfl⟩, fun i γ hi h => (hla i γ hi h).2, fun i β hi => by simp at hi, fun i l β hi => by simp at hi⟩
   match i, hi with
   | i + 1, hi => simp at hi
   | 0, hi =>
    cases hi
    refine .inr ⟨β, cap, _, el, b0, by rw [hhd, hds, zA8, hys], hat, by rw [zA8, hys]; exact b3', by simpa [Go.Sort.putCells] using b4, ?_, ?_⟩
    ·intro i row hi
     rw [zA3] at hi
     cases hq : ys[i]? with
     | none => rw [hq] at hi; cases hi
     | some x => rw [hq] at hi; cases hi; rw [he]; rfl
    ·intro i row j u hi hj
     rw [zA3] at hi
     cases hq : ys[i]? with
     | none => rw [hq] at hi; cases hi
     | some x =>
      rw [hq] at hi; cases hi
      have hil : i < d'.size := by rw [hlen']; exact AF hq
      rw [he] at hj
      obtain ⟨rfl, rfl⟩ : j = 0 ∧ t x = u := by
       cases j with
       | zero => exact ⟨rfl, by simpa using hj⟩
       | succ j => simp at hj
      have hx : (d'[i]!).1.2 = x := by
       rw [← hlist, zA3] at hq
       rw [getElem!_pos d' i hil]
       rw [show d'.toList[i]? = some d'[i] from by simp [hil]] at hq
       simpa using hq
      have hr := (d'[i]!).2.2
      rw [hx] at hr
      have hasz : i < arr.size := by omega
      have hcell : Ay (Go.Sort.putCells enc 0 d' arr) (i * 1 + 0) = (d'[i]!).1.1 := by
       unfold Ay Go.Sort.putCells
       rw [Nat.mul_one, zG4, Array.getElem?_mapIdx, show arr[i]? = some (Ay arr i) from Jb hasz]
       simp only [zE7, zC9, zA9, true_and, zA1, Nat.sub_zero]
       rw [if_pos hil]
      rw [hcell]
      exact hr.mono (hsame n d' os) (fun _ h => h)
theorem Xb {P : Program} {ρ : Ren} (L : Go.Proofs.SlLaysF.n6 P ρ) {e : α → List T} {t : α → T} (he1 : ∀ x, e x = [t x]) (he : WH e) {bq : α → α → Bool} (hq : ∀ x y, bq x y = true → x = y) {cmp : α × α → Option Int} {xs ys : List α} (h : Vq cmp bq xs = some ys) :
  EP P (ρ.f 6) [.e (.one (.own 90000)), .e (.one (.clo (G7 (XH false e false e) (fun n => .val (.int .i64 n)) cmp)))] [(.vec 1 (xs.map e), .vec 1 (ys.map e))] [] (.tup []) := by
 obtain ⟨h1, h2, h3, h4, h5⟩ := XD hq h
 refine SX L he1 (c := fun x y => (cmp (x, y)).getD 0) (fun x y hx hy => ?_) h2 h3 h4 h5
 exact IT (ea := XH false e false e) (er := fun n => T.val (.int .i64 n)) (SF false e false e he he) (x := (x, y)) (h1 x y hx hy)
end
end Go.Lift
namespace Go.Lift
def Ak (n : Int) : List T := [.val (.int .i64 n)]
def DL (n : Int) : List T := [.val (.int .u8 n)]
def ft (n : Int) : List T := [.val (.int .u16 n)]
def DO (n : Int) : List T := [.val (.int .u64 n)]
abbrev N7 (n : Int) : T := .val (.int .i64 n)
abbrev tB (b : Bool) : T := .val (.bool b)
def eB (b : Bool) : List T := [.val (.bool b)]
def FO {α : Type} (f : α → List T) (xs : List α) : List T := [.sl (xs.map f)]
theorem Ot : WH Ak := ⟨by intro x y h; simpa [Ak] using h⟩
theorem ax : WH DL := ⟨by intro x y h; simpa [DL] using h⟩
theorem U0 : WH DO := ⟨by intro x y h; simpa [DO] using h⟩
theorem eZ : WH eB := ⟨by intro x y h; simpa [eB] using h⟩
theorem dC {α : Type} {f : α → List T} (h : WH f) : WH (FO f) := ⟨by intro x y hx; simp only [FO, List.cons.injEq, T.sl.injEq, and_true] at hx; exact JF h.inj _ _ hx⟩
structure HY where
 fG : Int
 fF : Int
 fJ : Int
 fQ : Bool
 fU : Int
 fV : Int
def Hx (x : HY) : List T := [.val (.int .u8 x.fG), .val (.int .u8 x.fF), .val (.int .u8 x.fJ), .val (.bool x.fQ), .val (.int .u16 x.fU), .val (.int .u16 x.fV)]
structure BN where
 fA : List Int
 fH : List Int
 fL : List Int
 fT : List HY
def Ns (x : BN) : List T := [.sl (x.fA.map DL), .sl (x.fH.map DL), .sl (x.fL.map DL), .sl (x.fT.map Hx)]
structure Am where
 fG : Int
 fF : Int
 fJ : Int
 fQ : Bool
 fP : List (List Bool)
 fK : List (List Bool)
def AO (x : Am) : List T := [.val (.int .i64 x.fG), .val (.int .i64 x.fF), .val (.int .i64 x.fJ), .val (.bool x.fQ), .sl (x.fP.map (FO eB)), .sl (x.fK.map (FO eB))]
structure Aa where
 fA : List Int
 fH : List Int
 fL : List Int
 fC : List Am
structure Ab where
 fD : List Int
 fB : List Int
 fE : List Int
def AV (x : Ab) : List T := [.sl (x.fD.map Ak), .sl (x.fB.map Ak), .sl (x.fE.map DL)]
theorem Mu : WH AV := ⟨by
 rintro ⟨a1, a2, a3⟩ ⟨b1, b2, b3⟩ h
 simp only [AV, List.cons.injEq, T.sl.injEq, and_true] at h
 obtain ⟨h1, h2, h3⟩ := h
 have h1 := JF Ot.inj _ _ h1
 subst h1
 have h2 := JF Ot.inj _ _ h2
 subst h2
 have h3 := JF ax.inj _ _ h3
 subst h3
 rfl⟩
structure Ap where
 fW : Int
 fX : Int
 fY : Int
def A6 (x : Ap) : List T := [.val (.int .i64 x.fW), .val (.int .i64 x.fX), .val (.int .i64 x.fY)]
structure Ad where
 fG : Int
 fI : Int
 fO : Int
def AG (x : Ad) : List T := [.val (.int .i64 x.fG), .val (.int .i64 x.fI), .val (.int .i64 x.fO)]
theorem Pp : WH AG := ⟨by
 rintro ⟨a1, a2, a3⟩ ⟨b1, b2, b3⟩ h
 simp only [AG, List.cons.injEq, T.val.injEq, Value.int.injEq, and_true, true_and] at h
 obtain ⟨h1, h2, h3⟩ := h
 subst h1
 subst h2
 subst h3
 rfl⟩
structure AH where
 fS : Ab
 fZ : Int
 fR : Ad
def Cw (x : AH) : List T := [.sl (x.fS.fD.map Ak), .sl (x.fS.fB.map Ak), .sl (x.fS.fE.map DL), .val (.int .i64 x.fZ), .val (.int .i64 x.fR.fG), .val (.int .i64 x.fR.fI), .val (.int .i64 x.fR.fO)]
structure AD where
 fN : Ab
 fF : Int
 fR : Ad
 fB : List Int
def Bj (x : AD) : List T := [.sl (x.fN.fD.map Ak), .sl (x.fN.fB.map Ak), .sl (x.fN.fE.map DL), .val (.int .i64 x.fF), .val (.int .i64 x.fR.fG), .val (.int .i64 x.fR.fI), .val (.int .i64 x.fR.fO), .sl (x.fB.map Ak)]
theorem Tk : WH Bj := ⟨by
 rintro ⟨⟨a1, a2, a3⟩, a4, ⟨a5, a6, a7⟩, a8⟩ ⟨⟨b1, b2, b3⟩, b4, ⟨b5, b6, b7⟩, b8⟩ h
 simp only [Bj, List.cons.injEq, T.val.injEq, T.sl.injEq, Value.int.injEq, and_true, true_and] at h
 obtain ⟨h1, h2, h3, h4, h5, h6, h7, h8⟩ := h
 have h1 := JF Ot.inj _ _ h1
 subst h1
 have h2 := JF Ot.inj _ _ h2
 subst h2
 have h3 := JF ax.inj _ _ h3
 subst h3
 subst h4
 subst h5
 subst h6
 subst h7
 have h8 := JF Ot.inj _ _ h8
 subst h8
 rfl⟩
open IntKind renaming wrap → wI
def Ex (_ : Nat) (p0 : List Int) (p1 : Int) : Option Int :=
 AR ((decide (p1 < (p0.length : Int))))
  ((Br p0 p1).bind fun v2 =>
  some ((wI .i64 v2)))
  (some 0)
def Bc (_ : Nat) (p0 : Am) : Option Bool :=
 Be (fun (v1 : Bool) =>
  some v1)
 fun j1 =>
 AR ((p0.fG == 3))
  (j1 true)
  (j1 (p0.fG == 4))
def Cz (N : Nat) (p1 : Int) (p2 : Int) (p3 : Bool) (v1 : (List (List Bool)) × Int) (j4 : ((List Bool)) → Option ((List (List Bool)))) : Nat → ((List Bool) × Int) → Option ((List (List Bool)))
 | 0, _ => none
 | n4 + 1, v4 =>
  AR ((decide (v4.2 < p1)))
   (Be (fun (v7 : (List Bool)) =>
    Cz N p1 p2 p3 v1 j4 n4 (v7, (wI .i64 (v4.2 + 1))))
   fun j7 =>
   AR p3
    (AR ((v1.2 == v4.2))
     ((DN (v4.1.length + (([true] : List Bool)).length ≤ Db)).bind fun _ =>
     j7 (v4.1 ++ (([true] : List Bool))))
     ((DN (0 ≤ (wI .i64 ((wI .i64 (3 * v1.2)) + v4.2)))).bind fun _ =>
     (DN (v4.1.length + (([((zB8 ((A2 .u16 p2 ((wI .i64 ((wI .i64 (3 * v1.2)) + v4.2))))) 2) == 0)] : List Bool)).length ≤ Db)).bind fun _ =>
     j7 (v4.1 ++ (([((zB8 ((A2 .u16 p2 ((wI .i64 ((wI .i64 (3 * v1.2)) + v4.2))))) 2) == 0)] : List Bool)))))
    ((DN (0 ≤ (wI .i64 ((wI .i64 (3 * v1.2)) + v4.2)))).bind fun _ =>
    (DN (v4.1.length + (([((zB8 ((A2 .u16 p2 ((wI .i64 ((wI .i64 (3 * v1.2)) + v4.2))))) 2) == 0)] : List Bool)).length ≤ Db)).bind fun _ =>
    j7 (v4.1 ++ (([((zB8 ((A2 .u16 p2 ((wI .i64 ((wI .i64 (3 * v1.2)) + v4.2))))) 2) == 0)] : List Bool)))))
   (j4 v4.1)
def CG (N : Nat) (p0 : Int) (p1 : Int) (p2 : Int) (p3 : Bool) (j1 : ((List (List Bool))) → Option ((List (List Bool)))) : Nat → ((List (List Bool)) × Int) → Option ((List (List Bool)))
 | 0, _ => none
 | n1 + 1, v1 =>
  AR ((decide (v1.2 < p0)))
   (Cz N p1 p2 p3 v1 (fun (v5 : (List Bool)) =>
    (DN (v1.1.length + (([v5] : List (List Bool))).length ≤ Db)).bind fun _ =>
    CG N p0 p1 p2 p3 j1 n1 (v1.1 ++ (([v5] : List (List Bool))), (wI .i64 (v1.2 + 1)))) N (([] : List Bool), 0))
   (j1 v1.1)
def Ez (N : Nat) (p0 : Int) (p1 : Int) (p2 : Int) (p3 : Bool) : Option ((List (List Bool))) :=
 CG N p0 p1 p2 p3 (fun (v2 : (List (List Bool))) =>
  some v2) N (([] : List (List Bool)), 0)
def C7 (N : Nat) (p0 : BN) (j4 : ((List Int) × (List Int) × (List Int)) → Option (Aa × Bool)) : Nat → ((List Int) × (List Int) × (List Int) × Int) → Option (Aa × Bool)
 | 0, _ => none
 | n4 + 1, v4 =>
  AR ((decide (v4.2.2.2 < (p0.fA.length : Int))))
   ((Br p0.fA v4.2.2.2).bind fun v7 =>
   (DN (v4.1.length + (([(wI .i64 (1 + (wI .i64 ((zB8 v7 3)))))] : List Int)).length ≤ Db)).bind fun _ =>
   (Ex N p0.fH v4.2.2.2).bind fun v9 =>
   (DN ((wI .i64 (1 + (wI .i64 ((zB8 v7 3))))) ≠ 0)).bind fun _ =>
   (DN (v4.2.1.length + (([(zB8 v9 ((wI .i64 (1 + (wI .i64 ((zB8 v7 3)))))))] : List Int)).length ≤ Db)).bind fun _ =>
   (Ex N p0.fL v4.2.2.2).bind fun v12 =>
   (DN ((wI .i64 (1 + (wI .i64 ((zB8 v7 3))))) ≠ 0)).bind fun _ =>
   (DN (v4.2.2.1.length + (([(zB8 v12 ((wI .i64 (1 + (wI .i64 ((zB8 v7 3)))))))] : List Int)).length ≤ Db)).bind fun _ =>
   C7 N p0 j4 n4 (v4.1 ++ (([(wI .i64 (1 + (wI .i64 ((zB8 v7 3)))))] : List Int)), v4.2.1 ++ (([(zB8 v9 ((wI .i64 (1 + (wI .i64 ((zB8 v7 3)))))))] : List Int)), v4.2.2.1 ++ (([(zB8 v12 ((wI .i64 (1 + (wI .i64 ((zB8 v7 3)))))))] : List Int)), (wI .i64 (v4.2.2.2 + 1))))
   (j4 (v4.1, v4.2.1, v4.2.2.1))
def BH (N : Nat) (p0 : BN) (v5 : (List Int) × (List Int) × (List Int)) (j15 : ((List Am)) → Option (Aa × Bool)) : Nat → ((List Am) × Int) → Option (Aa × Bool)
 | 0, _ => none
 | n15 + 1, v15 =>
  Be (fun (v17 : Bool) =>
   AR v17
    ((Br p0.fT v15.2).bind fun v20 =>
    (DN ((v5.1.length : Int) ≠ 0)).bind fun _ =>
    (DN ((v5.1.length : Int) ≠ 0)).bind fun _ =>
    Be (fun (v23 : Bool) =>
     (Br v5.1 ((zB8 ((wI .i64 v20.fF)) ((v5.1.length : Int))))).bind fun v26 =>
     (Br v5.1 ((zB8 ((wI .i64 v20.fJ)) ((v5.1.length : Int))))).bind fun v27 =>
     (Ez N v26 v27 v20.fU false).bind fun v28 =>
     Be (fun (v29 : (List (List Bool))) =>
      (DN (v15.1.length + (([(Am.mk ((wI .i64 (1 + (wI .i64 ((zB8 v20.fG 4)))))) ((zB8 ((wI .i64 v20.fF)) ((v5.1.length : Int)))) ((zB8 ((wI .i64 v20.fJ)) ((v5.1.length : Int)))) v23 v28 v29)] : List Am)).length ≤ Db)).bind fun _ =>
      BH N p0 v5 j15 n15 (v15.1 ++ (([(Am.mk ((wI .i64 (1 + (wI .i64 ((zB8 v20.fG 4)))))) ((zB8 ((wI .i64 v20.fF)) ((v5.1.length : Int)))) ((zB8 ((wI .i64 v20.fJ)) ((v5.1.length : Int)))) v23 v28 v29)] : List Am)), (wI .i64 (v15.2 + 1))))
     fun j29 =>
     AR (((wI .i64 (1 + (wI .i64 ((zB8 v20.fG 4))))) == 4))
      ((Br v5.1 ((zB8 ((wI .i64 v20.fF)) ((v5.1.length : Int))))).bind fun v31 =>
      (Br v5.1 ((zB8 ((wI .i64 v20.fF)) ((v5.1.length : Int))))).bind fun v32 =>
      (Ez N v31 v32 v20.fV true).bind fun v33 =>
      j29 v33)
      (j29 ([] : List (List Bool))))
    fun j23 =>
    AR v20.fQ
     ((Bc N ((Am.mk ((wI .i64 (1 + (wI .i64 ((zB8 v20.fG 4)))))) ((zB8 ((wI .i64 v20.fF)) ((v5.1.length : Int)))) ((zB8 ((wI .i64 v20.fJ)) ((v5.1.length : Int)))) false (([] : List (List Bool))) (([] : List (List Bool)))))).bind fun v25 =>
     j23 (!v25))
     (j23 false))
    (j15 v15.1))
  fun j17 =>
  AR ((decide (v15.2 < (p0.fT.length : Int))))
   (j17 (decide (0 < (v5.1.length : Int))))
   (j17 false)
def FT (N : Nat) (p0 : BN) : Option (Aa × Bool) :=
 Be (fun (v1 : Bool) =>
  AR v1
   (some ((Aa.mk (([] : List Int)) (([] : List Int)) (([] : List Int)) (([] : List Am))), false))
   (C7 N p0 (fun (v5 : (List Int) × (List Int) × (List Int)) =>
    BH N p0 v5 (fun (v16 : (List Am)) =>
     some ((Aa.mk v5.1 v5.2.1 v5.2.2 v16), true)) N (([] : List Am), 0)) N (([] : List Int), ([] : List Int), ([] : List Int), 0)))
 fun j1 =>
 AR ((decide (3 < (p0.fA.length : Int))))
  (j1 true)
  (j1 (decide (4 < (p0.fT.length : Int))))
def CL (N : Nat) (p0 : List (List Bool)) (p1 : Int) (p2 : Int) (j2 : Unit → Option Bool) : Nat → Int → Option Bool
 | 0, _ => none
 | n2 + 1, v2 =>
  AR ((decide (v2 < p1)))
   ((Br p0 v2).bind fun v5 =>
   AR (((v5.length : Int) != p2))
    (some false)
    (CL N p0 p1 p2 j2 n2 (wI .i64 (v2 + 1))))
   (j2 ())
def DY (N : Nat) (p0 : List (List Bool)) (p1 : Int) (p2 : Int) : Option Bool :=
 AR (((p0.length : Int) != p1))
  (some false)
  (CL N p0 p1 p2 (fun (_ : Unit) =>
   some true) N 0)
def B7 (N : Nat) (p1 : Am) (j22 : Unit → Option Int) : Nat → Int → Option Int
 | 0, _ => none
 | n22 + 1, v22 =>
  AR ((decide (v22 < (p1.fK.length : Int))))
   ((Br p1.fK v22).bind fun v25 =>
   (Br v25 v22).bind fun v26 =>
   AR ((!v26))
    (some 1)
    (B7 N p1 j22 n22 (wI .i64 (v22 + 1))))
   (j22 ())
def E8 (N : Nat) (p0 : Aa) (p1 : Am) : Option Int :=
 Be (fun (v1 : Bool) =>
  AR v1
   (some 1)
   (Be (fun (v7 : Bool) =>
    AR v7
     (some 4)
     ((Br p0.fA p1.fF).bind fun v12 =>
     (Br p0.fA p1.fJ).bind fun v13 =>
     (DY N p1.fP v12 v13).bind fun v14 =>
     AR ((!v14))
      (some 6)
      (AR ((p1.fG != 4))
       (AR (((p1.fK.length : Int) != 0))
        (some 6)
        (some 0))
       ((Br p0.fA p1.fF).bind fun v18 =>
       (Br p0.fA p1.fF).bind fun v19 =>
       (DY N p1.fK v18 v19).bind fun v20 =>
       AR ((!v20))
        (some 6)
        (B7 N p1 (fun (_ : Unit) =>
         some 0) N 0)))))
   fun j7 =>
   AR ((decide (p1.fF < 0)))
    (j7 true)
    (AR ((decide ((p0.fA.length : Int) ≤ p1.fF)))
     (j7 true)
     (AR ((decide (p1.fJ < 0)))
      (j7 true)
      (j7 (decide ((p0.fA.length : Int) ≤ p1.fJ)))))))
 fun j1 =>
 AR ((decide (p1.fG < 1)))
  (j1 true)
  (AR ((decide (4 < p1.fG)))
   (j1 true)
   (AR p1.fQ
    ((Bc N p1).bind fun v5 =>
    j1 v5)
    (j1 false)))
def Bl (N : Nat) (p0 : Aa) (j7 : Unit → Option Int) : Nat → Int → Option Int
 | 0, _ => none
 | n7 + 1, v7 =>
  AR ((decide (v7 < (p0.fA.length : Int))))
   ((Br p0.fA v7).bind fun v10 =>
   Be (fun (v11 : Bool) =>
    AR v11
     (some 7)
     (Bl N p0 j7 n7 (wI .i64 (v7 + 1))))
   fun j11 =>
   AR ((decide (v10 < 1)))
    (j11 true)
    (AR ((decide (6 < v10)))
     (j11 true)
     ((Br p0.fH v7).bind fun v14 =>
     AR ((decide (v14 < 0)))
      (j11 true)
      ((Br p0.fH v7).bind fun v16 =>
      AR ((decide (v10 ≤ v16)))
       (j11 true)
       ((Br p0.fL v7).bind fun v18 =>
       AR ((decide (v18 < 0)))
        (j11 true)
        ((Br p0.fL v7).bind fun v20 =>
        j11 (decide (v10 ≤ v20))))))))
   (j7 ())
def Bi (N : Nat) (p0 : Aa) (j22 : Unit → Option Int) : Nat → Int → Option Int
 | 0, _ => none
 | n22 + 1, v22 =>
  AR ((decide (v22 < (p0.fC.length : Int))))
   ((Br p0.fC v22).bind fun v25 =>
   (E8 N p0 v25).bind fun v26 =>
   AR ((v26 != 0))
    (some v26)
    (Bi N p0 j22 n22 (wI .i64 (v22 + 1))))
   (j22 ())
def BM (N : Nat) (p0 : Aa) : Option Int :=
 Be (fun (v1 : Bool) =>
  AR v1
   (some 3)
   (Be (fun (v4 : Bool) =>
    AR v4
     (some 6)
     (Bl N p0 (fun (_ : Unit) =>
      Bi N p0 (fun (_ : Unit) =>
       some 0) N 0) N 0))
   fun j4 =>
   AR (((p0.fH.length : Int) != (p0.fA.length : Int)))
    (j4 true)
    (j4 ((p0.fL.length : Int) != (p0.fA.length : Int)))))
 fun j1 =>
 AR ((decide (6 < (p0.fA.length : Int))))
  (j1 true)
  (j1 (decide (12 < (p0.fC.length : Int))))
def FJ (N : Nat) (p0 : Int) (j1 : ((List Int)) → Option ((List Int))) : Nat → ((List Int) × Int) → Option ((List Int))
 | 0, _ => none
 | n1 + 1, v1 =>
  (DN (0 ≤ v1.2)).bind fun _ =>
  AR ((decide (0 < (A2 .i64 p0 v1.2))))
   (Be (fun (v5 : (List Int)) =>
    FJ N p0 j1 n1 (v5, (wI .i64 (v1.2 + 1))))
   fun j5 =>
   (DN (0 ≤ v1.2)).bind fun _ =>
   AR (((zB8 ((A2 .i64 p0 v1.2)) 2) == 1))
    ((DN (v1.1.length + (([v1.2] : List Int)).length ≤ Db)).bind fun _ =>
    j5 (v1.1 ++ (([v1.2] : List Int))))
    (j5 v1.1))
   (j1 v1.1)
def H6 (N : Nat) (p0 : Int) : Option ((List Int)) :=
 FJ N p0 (fun (v2 : (List Int)) =>
  some v2) N (([] : List Int), 0)
def ES (N : Nat) (p0 : List Int) (p1 : List Int) (j2 : Unit → Option Bool) : Nat → Int → Option Bool
 | 0, _ => none
 | n2 + 1, v2 =>
  AR ((decide (v2 < (p0.length : Int))))
   ((Br p0 v2).bind fun v5 =>
   (Br p1 v2).bind fun v6 =>
   AR ((v5 != v6))
    ((Br p0 v2).bind fun v8 =>
    (Br p1 v2).bind fun v9 =>
    some ((decide (v8 < v9))))
    (ES N p0 p1 j2 n2 (wI .i64 (v2 + 1))))
   (j2 ())
def GX (N : Nat) (p0 : List Int) (p1 : List Int) : Option Bool :=
 AR (((p0.length : Int) != (p1.length : Int)))
  (some ((decide ((p0.length : Int) < (p1.length : Int)))))
  (ES N p0 p1 (fun (_ : Unit) =>
   some false) N 0)
def Fp (N : Nat) (j7 : ((List (List Int))) → Option ((List (List Int)))) : Nat → ((List (List Int)) × Int) → Option ((List (List Int)))
 | 0, _ => none
 | n7 + 1, v7 =>
  Be (fun (v9 : Bool) =>
   AR v9
    ((Br v7.1 ((wI .i64 (v7.2 - 1)))).bind fun v15 =>
    (Br v7.1 v7.2).bind fun v16 =>
    (Br v7.1 v7.2).bind fun _ =>
    (Br (v7.1.set ((v7.2).toNat) v15) ((wI .i64 (v7.2 - 1)))).bind fun _ =>
    Fp N j7 n7 ((v7.1.set ((v7.2).toNat) v15).set (((wI .i64 (v7.2 - 1))).toNat) v16, (wI .i64 (v7.2 - 1))))
    (j7 v7.1))
  fun j9 =>
  AR ((decide (0 < v7.2)))
   ((Br v7.1 v7.2).bind fun v11 =>
   (Br v7.1 ((wI .i64 (v7.2 - 1)))).bind fun v12 =>
   (GX N v11 v12).bind fun v13 =>
   j9 v13)
   (j9 false)
def Fl (N : Nat) (p0 : Int) (j1 : ((List (List Int))) → Option ((List (List Int)))) : Nat → ((List (List Int)) × Int) → Option ((List (List Int)))
 | 0, _ => none
 | n1 + 1, v1 =>
  (DN (0 ≤ p0)).bind fun _ =>
  AR ((decide (v1.2 < (D6 .i64 1 p0))))
   ((H6 N v1.2).bind fun v5 =>
   (DN (v1.1.length + (([v5] : List (List Int))).length ≤ Db)).bind fun _ =>
   Fp N (fun (v8 : (List (List Int))) =>
    Fl N p0 j1 n1 (v8, (wI .i64 (v1.2 + 1)))) N (v1.1 ++ (([v5] : List (List Int))), (wI .i64 (((v1.1 ++ (([v5] : List (List Int)))).length : Int) - 1))))
   (j1 v1.1)
def Cr (N : Nat) (p0 : Int) : Option ((List (List Int))) :=
 Fl N p0 (fun (v2 : (List (List Int))) =>
  some v2) N (([] : List (List Int)), 0)
def Cl (N : Nat) (p0 : List Int) (p1 : Int) (j1 : Unit → Option Int) : Nat → Int → Option Int
 | 0, _ => none
 | n1 + 1, v1 =>
  AR ((decide (v1 < (p0.length : Int))))
   ((Br p0 v1).bind fun v4 =>
   AR ((v4 == p1))
    (some v1)
    (Cl N p0 p1 j1 n1 (wI .i64 (v1 + 1))))
   (j1 ())
def Ec (N : Nat) (p0 : List Int) (p1 : Int) : Option Int :=
 Cl N p0 p1 (fun (_ : Unit) =>
  some ((-1))) N 0
def CP (N : Nat) (p0 : List (List Bool)) (j1 : ((List (List Bool))) → Option ((List (List Bool)))) : Nat → ((List (List Bool)) × Int) → Option ((List (List Bool)))
 | 0, _ => none
 | n1 + 1, v1 =>
  AR ((decide (v1.2 < (p0.length : Int))))
   ((Br p0 v1.2).bind fun v4 =>
   (DN ((([] : List Bool)).length + v4.length ≤ Db)).bind fun _ =>
   (DN (v1.1.length + (([(([] : List Bool)) ++ v4] : List (List Bool))).length ≤ Db)).bind fun _ =>
   CP N p0 j1 n1 (v1.1 ++ (([(([] : List Bool)) ++ v4] : List (List Bool))), (wI .i64 (v1.2 + 1))))
   (j1 v1.1)
def DZ (N : Nat) (p0 : List (List Bool)) : Option ((List (List Bool))) :=
 CP N p0 (fun (v2 : (List (List Bool))) =>
  some v2) N (([] : List (List Bool)), 0)
def FE (N : Nat) (p0 : Am) (p1 : Int) (p2 : Int) : Option Am :=
 (DZ N p0.fP).bind fun v1 =>
 (DZ N p0.fK).bind fun v2 =>
 some ((Am.mk p0.fG p1 p2 p0.fQ v1 v2))
def A5 (N : Nat) (p1 : List Int) (j3 : Unit → Option (Aa × Int)) : Nat → Int → Option (Aa × Int)
 | 0, _ => none
 | n3 + 1, v3 =>
  AR ((decide (v3 < (p1.length : Int))))
   ((Br p1 v3).bind fun v6 =>
   (Br p1 ((wI .i64 (v3 - 1)))).bind fun v7 =>
   AR ((decide (v6 ≤ v7)))
    (some ((Aa.mk (([] : List Int)) (([] : List Int)) (([] : List Int)) (([] : List Am))), 1))
    (A5 N p1 j3 n3 (wI .i64 (v3 + 1))))
   (j3 ())
def C0 (N : Nat) (p0 : Aa) (p1 : List Int) (j9 : ((List Int) × (List Int) × (List Int)) → Option (Aa × Int)) : Nat → ((List Int) × (List Int) × (List Int) × Int) → Option (Aa × Int)
 | 0, _ => none
 | n9 + 1, v9 =>
  AR ((decide (v9.2.2.2 < (p1.length : Int))))
   ((Br p1 v9.2.2.2).bind fun v12 =>
   Be (fun (v13 : Bool) =>
    AR v13
     (some ((Aa.mk (([] : List Int)) (([] : List Int)) (([] : List Int)) (([] : List Am))), 4))
     ((Br p0.fA v12).bind fun v16 =>
     (DN (v9.1.length + (([v16] : List Int)).length ≤ Db)).bind fun _ =>
     (Br p0.fH v12).bind fun v18 =>
     (DN (v9.2.1.length + (([v18] : List Int)).length ≤ Db)).bind fun _ =>
     (Br p0.fL v12).bind fun v20 =>
     (DN (v9.2.2.1.length + (([v20] : List Int)).length ≤ Db)).bind fun _ =>
     C0 N p0 p1 j9 n9 (v9.1 ++ (([v16] : List Int)), v9.2.1 ++ (([v18] : List Int)), v9.2.2.1 ++ (([v20] : List Int)), (wI .i64 (v9.2.2.2 + 1)))))
   fun j13 =>
   AR ((decide (v12 < 0)))
    (j13 true)
    (j13 (decide ((p0.fA.length : Int) ≤ v12))))
   (j9 (v9.1, v9.2.1, v9.2.2.1))
def BL (N : Nat) (p0 : Aa) (p1 : List Int) (j22 : ((List Am)) → Option (Aa × Int)) : Nat → ((List Am) × Int) → Option (Aa × Int)
 | 0, _ => none
 | n22 + 1, v22 =>
  AR ((decide (v22.2 < (p0.fC.length : Int))))
   (Be (fun (v25 : (List Am)) =>
    BL N p0 p1 j22 n22 (v25, (wI .i64 (v22.2 + 1))))
   fun j25 =>
   (Br p0.fC v22.2).bind fun v26 =>
   (Ec N p1 v26.fF).bind fun v27 =>
   (Ec N p1 v26.fJ).bind fun v28 =>
   Be (fun (v29 : Bool) =>
    AR v29
     ((FE N v26 v27 v28).bind fun v32 =>
     (DN (v22.1.length + (([v32] : List Am)).length ≤ Db)).bind fun _ =>
     j25 (v22.1 ++ (([v32] : List Am))))
     (j25 v22.1))
   fun j29 =>
   AR ((decide (0 ≤ v27)))
    (j29 (decide (0 ≤ v28)))
    (j29 false))
   (j22 v22.1)
def C2 (N : Nat) (p0 : Aa) (p1 : List Int) : Option (Aa × Int) :=
 (BM N p0).bind fun v1 =>
 AR ((v1 != 0))
  (some ((Aa.mk (([] : List Int)) (([] : List Int)) (([] : List Int)) (([] : List Am))), v1))
  (A5 N p1 (fun (_ : Unit) =>
   C0 N p0 p1 (fun (v10 : (List Int) × (List Int) × (List Int)) =>
    BL N p0 p1 (fun (v23 : (List Am)) =>
     some ((Aa.mk v10.1 v10.2.1 v10.2.2 v23), 0)) N (([] : List Am), 0)) N (([] : List Int), ([] : List Int), ([] : List Int), 0)) N 1)
def Co (N : Nat) (p0 : Aa) (j3 : ((List Int) × (List Int)) → Option (Ab × Int)) : Nat → ((List Int) × (List Int) × Int) → Option (Ab × Int)
 | 0, _ => none
 | n3 + 1, v3 =>
  AR ((decide (v3.2.2 < (p0.fA.length : Int))))
   ((Br p0.fH v3.2.2).bind fun v6 =>
   (DN (v3.1.length + (([v6] : List Int)).length ≤ Db)).bind fun _ =>
   (DN (v3.2.1.length + (([(-1)] : List Int)).length ≤ Db)).bind fun _ =>
   Co N p0 j3 n3 (v3.1 ++ (([v6] : List Int)), v3.2.1 ++ (([(-1)] : List Int)), (wI .i64 (v3.2.2 + 1))))
   (j3 (v3.1, v3.2.1))
def Bo (N : Nat) (p0 : Aa) (j9 : ((List Int)) → Option (Ab × Int)) : Nat → ((List Int) × Int) → Option (Ab × Int)
 | 0, _ => none
 | n9 + 1, v9 =>
  AR ((decide (v9.2 < (p0.fC.length : Int))))
   (Be (fun (v12 : Int) =>
    (DN (v9.1.length + (([v12] : List Int)).length ≤ Db)).bind fun _ =>
    Bo N p0 j9 n9 (v9.1 ++ (([v12] : List Int)), (wI .i64 (v9.2 + 1))))
   fun j12 =>
   (Br p0.fC v9.2).bind fun v13 =>
   (Bc N v13).bind fun v14 =>
   AR v14
    ((Br p0.fC v9.2).bind fun v16 =>
    (Br p0.fH v16.fF).bind fun v17 =>
    (DN (0 ≤ v17)).bind fun _ =>
    j12 (D6 .u8 1 v17))
    (j12 0))
   (j9 v9.1)
def Ef (N : Nat) (p0 : Aa) : Option (Ab × Int) :=
 (BM N p0).bind fun v1 =>
 AR ((v1 != 0))
  (some ((Ab.mk (([] : List Int)) (([] : List Int)) (([] : List Int))), v1))
  (Co N p0 (fun (v4 : (List Int) × (List Int)) =>
   Bo N p0 (fun (v10 : (List Int)) =>
    some ((Ab.mk v4.1 v4.2 v10), 0)) N (([] : List Int), 0)) N (([] : List Int), ([] : List Int), 0))
def EI (_ : Nat) (p0 : Ab) : Option Ab :=
 (DN ((([] : List Int)).length + p0.fD.length ≤ Db)).bind fun _ =>
 (DN ((([] : List Int)).length + p0.fB.length ≤ Db)).bind fun _ =>
 (DN ((([] : List Int)).length + p0.fE.length ≤ Db)).bind fun _ =>
 some ((Ab.mk ((([] : List Int)) ++ p0.fD) ((([] : List Int)) ++ p0.fB) ((([] : List Int)) ++ p0.fE)))
def CU (N : Nat) (p0 : Ab) (j1 : Int → Option ((List Ab))) : Nat → (Int × Int) → Option ((List Ab))
 | 0, _ => none
 | n1 + 1, v1 =>
  AR ((decide (v1.2 < (p0.fB.length : Int))))
   (Be (fun (v4 : Int) =>
    CU N p0 j1 n1 (v4, (wI .i64 (v1.2 + 1))))
   fun j4 =>
   (Br p0.fB v1.2).bind fun v5 =>
   AR ((decide (0 ≤ v5)))
    (j4 (wI .i64 (v1.1 + 1)))
    (j4 v1.1))
   (j1 v1.1)
def B4 (N : Nat) (p0 : Ab) (v7 : (List Ab) × Int) (j12 : ((List Int)) → Option ((List Ab))) : Nat → ((List Int) × Int × Int) → Option ((List Ab))
 | 0, _ => none
 | n12 + 1, v12 =>
  AR ((decide (v12.2.2 < (p0.fB.length : Int))))
   (Be (fun (v15 : (List Int) × Int) =>
    B4 N p0 v7 j12 n12 (v15.1, v15.2, (wI .i64 (v12.2.2 + 1))))
   fun j15 =>
   (Br p0.fB v12.2.2).bind fun v16 =>
   AR ((decide (v16 < 0)))
    (j15 (v12.1, v12.2.1))
    (Be (fun (v18 : (List Int)) =>
     j15 (v18, (wI .i64 (v12.2.1 + 1))))
    fun j18 =>
    (DN (0 ≤ v12.2.1)).bind fun _ =>
    AR (((zB8 ((A2 .i64 v7.2 v12.2.1)) 2) == 1))
     ((Br v12.1 v12.2.2).bind fun _ =>
     j18 (v12.1.set ((v12.2.2).toNat) ((-1))))
     (j18 v12.1)))
   (j12 v12.1)
def BG (N : Nat) (p0 : Ab) (v2 : Int) (j7 : ((List Ab)) → Option ((List Ab))) : Nat → ((List Ab) × Int) → Option ((List Ab))
 | 0, _ => none
 | n7 + 1, v7 =>
  (DN (0 ≤ v2)).bind fun _ =>
  AR ((decide (v7.2 < (D6 .i64 1 v2))))
   ((EI N p0).bind fun v11 =>
   B4 N p0 v7 (fun (v13 : (List Int)) =>
    (DN (v7.1.length + (([(Ab.mk v11.fD v13 v11.fE)] : List Ab)).length ≤ Db)).bind fun _ =>
    BG N p0 v2 j7 n7 (v7.1 ++ (([(Ab.mk v11.fD v13 v11.fE)] : List Ab)), (wI .i64 (v7.2 + 1)))) N (v11.fB, 0, 0))
   (j7 v7.1)
def EN (N : Nat) (p0 : Ab) : Option ((List Ab)) :=
 CU N p0 (fun (v2 : Int) =>
  BG N p0 v2 (fun (v8 : (List Ab)) =>
   some v8) N (([] : List Ab), 0)) N (0, 0)
def B5 (_ : Nat) (p0 : Ab) (p1 : Int) : Option Int :=
 (Br p0.fD p1).bind fun v1 =>
 (DN (0 ≤ v1)).bind fun _ =>
 Be (fun (v3 : Int) =>
  some v3)
 fun j3 =>
 (Br p0.fB p1).bind fun v4 =>
 AR ((decide (0 ≤ v4)))
  ((Br p0.fB p1).bind fun v6 =>
  (DN (0 ≤ v6)).bind fun _ =>
  j3 (QC .u8 ((D6 .u8 1 v1)) ((D6 .u8 1 v6))))
  (j3 (D6 .u8 1 v1))
def CM (_ : Nat) (p0 : Int) (p1 : Int) : Option Bool :=
 (DN (0 ≤ p1)).bind fun _ =>
 some (((AK .u8 ((A2 .u8 p0 p1)) 1) == 1))
def Bt (N : Nat) (p0 : Aa) (p1 : Ab) (v1 : (List Ap) × Int) (v4 : Am) (v10 : (List Ap) × Int) (j17 : ((List Ap) × Bool) → Option ((List Ap))) : Nat → ((List Ap) × Bool × Int) → Option ((List Ap))
 | 0, _ => none
 | n17 + 1, v17 =>
  (Br p0.fA v4.fJ).bind fun v19 =>
  AR ((decide (v17.2.2 < v19)))
   (Be (fun (v21 : (List Ap) × Bool) =>
    Bt N p0 p1 v1 v4 v10 j17 n17 (v21.1, v21.2, (wI .i64 (v17.2.2 + 1))))
   fun j21 =>
   (B5 N p1 v4.fJ).bind fun v22 =>
   (CM N v22 v17.2.2).bind fun v23 =>
   AR ((!v23))
    (j21 (v17.1, v17.2.1))
    (Be (fun (v25 : Bool) =>
     Be (fun (v29 : Bool) =>
      AR v29
       ((DN (v17.1.length + (([(Ap.mk v1.2 v10.2 v17.2.2)] : List Ap)).length ≤ Db)).bind fun _ =>
       j21 (v17.1 ++ (([(Ap.mk v1.2 v10.2 v17.2.2)] : List Ap)), v25))
       (j21 (v17.1, v25)))
     fun j29 =>
     AR ((!v4.fQ))
      ((Br v4.fP v10.2).bind fun v31 =>
      (Br v31 v17.2.2).bind fun v32 =>
      j29 (!v32))
      (j29 false))
    fun j25 =>
    AR v17.2.1
     (j25 true)
     ((Br v4.fP v10.2).bind fun v27 =>
     (Br v27 v17.2.2).bind fun v28 =>
     j25 v28)))
   (j17 (v17.1, v17.2.1))
def BQ (N : Nat) (p0 : Aa) (p1 : Ab) (v1 : (List Ap) × Int) (v4 : Am) (v6 : Int) (j10 : ((List Ap)) → Option ((List Ap))) : Nat → ((List Ap) × Int) → Option ((List Ap))
 | 0, _ => none
 | n10 + 1, v10 =>
  (Br p0.fA v4.fF).bind fun v12 =>
  AR ((decide (v10.2 < v12)))
   (Be (fun (v14 : (List Ap)) =>
    BQ N p0 p1 v1 v4 v6 j10 n10 (v14, (wI .i64 (v10.2 + 1))))
   fun j14 =>
   (CM N v6 v10.2).bind fun v15 =>
   AR ((!v15))
    (j14 v10.1)
    (Bt N p0 p1 v1 v4 v10 (fun (v18 : (List Ap) × Bool) =>
     Be (fun (v35 : Bool) =>
      AR v35
       ((DN (v18.1.length + (([(Ap.mk v1.2 v10.2 ((-1)))] : List Ap)).length ≤ Db)).bind fun _ =>
       j14 (v18.1 ++ (([(Ap.mk v1.2 v10.2 ((-1)))] : List Ap))))
       (j14 v18.1))
     fun j35 =>
     AR v4.fQ
      (j35 (!v18.2))
      (j35 false)) N (v10.1, false, 0)))
   (j10 v10.1)
def C1 (N : Nat) (p0 : Aa) (p1 : Ab) (j1 : ((List Ap)) → Option ((List Ap))) : Nat → ((List Ap) × Int) → Option ((List Ap))
 | 0, _ => none
 | n1 + 1, v1 =>
  AR ((decide (v1.2 < (p0.fC.length : Int))))
   ((Br p0.fC v1.2).bind fun v4 =>
   (B5 N p1 v4.fF).bind fun v5 =>
   Be (fun (v6 : Int) =>
    BQ N p0 p1 v1 v4 v6 (fun (v11 : (List Ap)) =>
     C1 N p0 p1 j1 n1 (v11, (wI .i64 (v1.2 + 1)))) N (v1.1, 0))
   fun j6 =>
   (Bc N v4).bind fun v7 =>
   AR v7
    ((Br p1.fE v1.2).bind fun v9 =>
    j6 v9)
    (j6 v5))
   (j1 v1.1)
def E2 (N : Nat) (p0 : Aa) (p1 : Ab) : Option ((List Ap)) :=
 C1 N p0 p1 (fun (v2 : (List Ap)) =>
  some v2) N (([] : List Ap), 0)
def EK (N : Nat) (p0 : Aa) (p1 : Ab) : Option Bool :=
 (E2 N p0 p1).bind fun v1 =>
 some (((v1.length : Int) == 0))
def Cg (N : Nat) (p0 : Aa) (v1 : (List Ab)) (j2 : Unit → Option Bool) : Nat → Int → Option Bool
 | 0, _ => none
 | n2 + 1, v2 =>
  AR ((decide (v2 < (v1.length : Int))))
   ((Br v1 v2).bind fun v5 =>
   (EK N p0 v5).bind fun v6 =>
   AR ((!v6))
    (some false)
    (Cg N p0 v1 j2 n2 (wI .i64 (v2 + 1))))
   (j2 ())
def Cm (N : Nat) (p0 : Aa) (p1 : Ab) : Option Bool :=
 (EN N p1).bind fun v1 =>
 Cg N p0 v1 (fun (_ : Unit) =>
  some true) N 0
def Cn (N : Nat) (p0 : Aa) (p1 : Ab) (j7 : Unit → Option Int) : Nat → Int → Option Int
 | 0, _ => none
 | n7 + 1, v7 =>
  AR ((decide (v7 < (p0.fA.length : Int))))
   (Be (fun (v10 : Bool) =>
    AR v10
     (some 7)
     ((Br p1.fD v7).bind fun v21 =>
     (Br p1.fB v7).bind fun v22 =>
     AR ((v21 == v22))
      (some 1)
      (Cn N p0 p1 j7 n7 (wI .i64 (v7 + 1)))))
   fun j10 =>
   (Br p1.fD v7).bind fun v11 =>
   AR ((decide (v11 < 0)))
    (j10 true)
    ((Br p1.fD v7).bind fun v13 =>
    (Br p0.fA v7).bind fun v14 =>
    AR ((decide (v14 ≤ v13)))
     (j10 true)
     ((Br p1.fB v7).bind fun v16 =>
     AR ((decide (v16 < (-1))))
      (j10 true)
      ((Br p1.fB v7).bind fun v18 =>
      (Br p0.fA v7).bind fun v19 =>
      j10 (decide (v19 ≤ v18))))))
   (j7 ())
def Ca (N : Nat) (p0 : Aa) (p1 : Ab) (j24 : Unit → Option Int) : Nat → Int → Option Int
 | 0, _ => none
 | n24 + 1, v24 =>
  AR ((decide (v24 < (p0.fC.length : Int))))
   ((Br p0.fC v24).bind fun v27 =>
   (Br p0.fA v27.fF).bind fun v28 =>
   (DN (0 ≤ v28)).bind fun _ =>
   Be (fun (v30 : Bool) =>
    AR v30
     (some 1)
     (Ca N p0 p1 j24 n24 (wI .i64 (v24 + 1))))
   fun j30 =>
   (Bc N v27).bind fun v31 =>
   AR ((!v31))
    ((Br p1.fE v24).bind fun v33 =>
    AR ((v33 != 0))
     (j30 true)
     ((Bc N v27).bind fun v35 =>
     AR v35
      ((Br p1.fE v24).bind fun v37 =>
      AR (((Dk .u8 v37 ((wI .u8 ((D6 .u8 1 v28) - 1)))) != 0))
       (j30 true)
       ((B5 N p1 v27.fF).bind fun v39 =>
       (Br p1.fE v24).bind fun v40 =>
       j30 ((Dk .u8 v39 v40) != 0)))
      (j30 false)))
    ((Bc N v27).bind fun v41 =>
    AR v41
     ((Br p1.fE v24).bind fun v43 =>
     AR (((Dk .u8 v43 ((wI .u8 ((D6 .u8 1 v28) - 1)))) != 0))
      (j30 true)
      ((B5 N p1 v27.fF).bind fun v45 =>
      (Br p1.fE v24).bind fun v46 =>
      j30 ((Dk .u8 v45 v46) != 0)))
     (j30 false)))
   (j24 ())
def EZ (N : Nat) (p0 : Aa) (p1 : Ab) : Option Int :=
 (BM N p0).bind fun v1 =>
 AR ((v1 != 0))
  (some v1)
  (Be (fun (v3 : Bool) =>
   AR v3
    (some 6)
    (Cn N p0 p1 (fun (_ : Unit) =>
     Ca N p0 p1 (fun (_ : Unit) =>
      some 0) N 0) N 0))
  fun j3 =>
  AR (((p1.fD.length : Int) != (p0.fA.length : Int)))
   (j3 true)
   (AR (((p1.fB.length : Int) != (p0.fA.length : Int)))
    (j3 true)
    (j3 ((p1.fE.length : Int) != (p0.fC.length : Int)))))
def EV (_ : Nat) (p0 : Ad) : Option Bool :=
 Be (fun (v1 : Bool) =>
  some v1)
 fun j1 =>
 AR ((decide (1 ≤ p0.fG)))
  (AR ((decide (p0.fG ≤ 4)))
   (AR ((decide (0 ≤ p0.fI)))
    (AR ((decide (0 ≤ p0.fO)))
     (AR ((p0.fG == 1))
      (j1 true)
      (j1 (p0.fO == 0)))
     (j1 false))
    (j1 false))
   (j1 false))
  (j1 false)
def B8 (N : Nat) (p0 : Aa) (p2 : Ad) (j12 : ((List Int)) → Option (Ab × Bool)) : Nat → ((List Int) × Int) → Option (Ab × Bool)
 | 0, _ => none
 | n12 + 1, v12 =>
  AR ((decide (v12.2 < (p0.fC.length : Int))))
   (Be (fun (v15 : (List Int)) =>
    B8 N p0 p2 j12 n12 (v15, (wI .i64 (v12.2 + 1))))
   fun j15 =>
   Be (fun (v16 : Bool) =>
    AR v16
     ((Br v12.1 v12.2).bind fun v22 =>
     (DN (0 ≤ p2.fO)).bind fun _ =>
     (Br v12.1 v12.2).bind fun _ =>
     j15 (v12.1.set ((v12.2).toNat) ((QC .u8 v22 ((D6 .u8 1 p2.fO))))))
     (j15 v12.1))
   fun j16 =>
   (Br p0.fC v12.2).bind fun v17 =>
   AR ((v17.fF == p2.fI))
    ((Br p0.fC v12.2).bind fun v19 =>
    (Bc N v19).bind fun v20 =>
    j16 v20)
    (j16 false))
   (j12 v12.1)
def BP (N : Nat) (p0 : Aa) (p1 : Ab) (p2 : Ad) (v32 : Am) (v35 : Int) (j38 : Unit → Option (Ab × Bool)) : Nat → Int → Option (Ab × Bool)
 | 0, _ => none
 | n38 + 1, v38 =>
  (Br p0.fA v32.fF).bind fun v40 =>
  AR ((decide (v38 < v40)))
   (Be (fun (v42 : Bool) =>
    Be (fun (v47 : Bool) =>
     AR v47
      (some ((Ab.mk (([] : List Int)) (([] : List Int)) (([] : List Int))), false))
      (BP N p0 p1 p2 v32 v35 j38 n38 (wI .i64 (v38 + 1))))
    fun j47 =>
    AR v42
     (AR ((v32.fG == 4))
      ((Br v32.fK v38).bind fun v50 =>
      (Br p1.fD v32.fF).bind fun v51 =>
      (Br v50 v51).bind fun v52 =>
      j47 (!v52))
      (j47 false))
     (j47 false))
   fun j42 =>
   (Br p1.fE p2.fI).bind fun v43 =>
   (CM N v43 v38).bind fun v44 =>
   AR v44
    ((CM N v35 v38).bind fun v46 =>
    j42 (!v46))
    (j42 false))
   (j38 ())
def CF (N : Nat) (p0 : Aa) (p1 : Ab) (p2 : Ad) : Option (Ab × Bool) :=
 (DN ((([] : List Int)).length + p1.fD.length ≤ Db)).bind fun _ =>
 (DN ((([] : List Int)).length + p1.fB.length ≤ Db)).bind fun _ =>
 (DN ((([] : List Int)).length + p1.fE.length ≤ Db)).bind fun _ =>
 Be (fun (v4 : (List Int) × (List Int) × (List Int)) =>
  some ((Ab.mk v4.1 v4.2.1 v4.2.2), true))
 fun j4 =>
 AR ((p2.fG == 1))
  (Be (fun (v6 : Bool) =>
   AR v6
    (some ((Ab.mk (([] : List Int)) (([] : List Int)) (([] : List Int))), false))
    ((Br ((([] : List Int)) ++ p1.fB) p2.fI).bind fun _ =>
    B8 N p0 p2 (fun (v13 : (List Int)) =>
     j4 ((([] : List Int)) ++ p1.fD, ((([] : List Int)) ++ p1.fB).set ((p2.fI).toNat) p2.fO, v13)) N ((([] : List Int)) ++ p1.fE, 0)))
  fun j6 =>
  (Br p1.fB p2.fI).bind fun v7 =>
  AR ((decide (0 ≤ v7)))
   (j6 true)
   ((Br p1.fD p2.fI).bind fun v9 =>
   j6 (p2.fO == v9)))
  (AR ((p2.fG == 2))
   ((Br p1.fB p2.fI).bind fun v26 =>
   AR ((decide (v26 < 0)))
    (some ((Ab.mk (([] : List Int)) (([] : List Int)) (([] : List Int))), false))
    ((Br p1.fB p2.fI).bind fun v28 =>
    (Br ((([] : List Int)) ++ p1.fD) p2.fI).bind fun _ =>
    (Br ((([] : List Int)) ++ p1.fB) p2.fI).bind fun _ =>
    j4 (((([] : List Int)) ++ p1.fD).set ((p2.fI).toNat) v28, ((([] : List Int)) ++ p1.fB).set ((p2.fI).toNat) ((-1)), (([] : List Int)) ++ p1.fE)))
   (AR ((p2.fG == 3))
    ((Br p0.fC p2.fI).bind fun v32 =>
    (Bc N v32).bind fun v33 =>
    AR ((!v33))
     (some ((Ab.mk (([] : List Int)) (([] : List Int)) (([] : List Int))), false))
     ((B5 N p1 v32.fF).bind fun v35 =>
     (Br p1.fE p2.fI).bind fun v36 =>
     AR ((v36 == v35))
      (some ((Ab.mk (([] : List Int)) (([] : List Int)) (([] : List Int))), false))
      (BP N p0 p1 p2 v32 v35 (fun (_ : Unit) =>
       (Br ((([] : List Int)) ++ p1.fE) p2.fI).bind fun _ =>
       j4 ((([] : List Int)) ++ p1.fD, (([] : List Int)) ++ p1.fB, ((([] : List Int)) ++ p1.fE).set ((p2.fI).toNat) v35)) N 0)))
    ((Br p1.fB p2.fI).bind fun v55 =>
    AR ((decide (v55 < 0)))
     (some ((Ab.mk (([] : List Int)) (([] : List Int)) (([] : List Int))), false))
     ((Br ((([] : List Int)) ++ p1.fB) p2.fI).bind fun _ =>
     j4 ((([] : List Int)) ++ p1.fD, ((([] : List Int)) ++ p1.fB).set ((p2.fI).toNat) ((-1)), (([] : List Int)) ++ p1.fE)))))
def E3 (N : Nat) (p0 : Aa) (p1 : Ab) (p2 : Ad) : Option (Ab × Int) :=
 (EZ N p0 p1).bind fun v1 =>
 AR ((v1 != 0))
  (some ((Ab.mk (([] : List Int)) (([] : List Int)) (([] : List Int))), v1))
  ((EV N p2).bind fun v3 =>
  AR ((!v3))
   (some ((Ab.mk (([] : List Int)) (([] : List Int)) (([] : List Int))), 1))
   (Be (fun (v5 : Bool) =>
    AR v5
     (some ((Ab.mk (([] : List Int)) (([] : List Int)) (([] : List Int))), 4))
     (Be (fun (v11 : Bool) =>
      AR v11
       (some ((Ab.mk (([] : List Int)) (([] : List Int)) (([] : List Int))), 4))
       ((CF N p0 p1 p2).bind fun v15 =>
       AR ((!v15.2))
        (some ((Ab.mk (([] : List Int)) (([] : List Int)) (([] : List Int))), 11))
        (some (v15.1, 0))))
     fun j11 =>
     AR ((p2.fG == 1))
      ((Br p0.fA p2.fI).bind fun v13 =>
      j11 (decide (v13 ≤ p2.fO)))
      (j11 false)))
   fun j5 =>
   AR ((p2.fG == 3))
    (AR ((decide ((p0.fC.length : Int) ≤ p2.fI)))
     (j5 true)
     (AR ((p2.fG != 3))
      (j5 (decide ((p0.fA.length : Int) ≤ p2.fI)))
      (j5 false)))
    (AR ((p2.fG != 3))
     (j5 (decide ((p0.fA.length : Int) ≤ p2.fI)))
     (j5 false))))
def Ck (N : Nat) (p0 : Aa) (p1 : Ab) (v1 : (List Ad) × Int) (v4 : (List Ad) × Int) (j7 : ((List Ad)) → Option ((List Ad))) : Nat → ((List Ad) × Int) → Option ((List Ad))
 | 0, _ => none
 | n7 + 1, v7 =>
  AR ((decide (v7.2 < 6)))
   (Be (fun (v10 : (List Ad)) =>
    Ck N p0 p1 v1 v4 j7 n7 (v10, (wI .i64 (v7.2 + 1))))
   fun j10 =>
   (E3 N p0 p1 ((Ad.mk v1.2 v4.2 v7.2))).bind fun v11 =>
   AR ((v11.2 == 0))
    ((DN (v7.1.length + (([(Ad.mk v1.2 v4.2 v7.2)] : List Ad)).length ≤ Db)).bind fun _ =>
    j10 (v7.1 ++ (([(Ad.mk v1.2 v4.2 v7.2)] : List Ad))))
    (j10 v7.1))
   (j7 v7.1)
def Cq (N : Nat) (p0 : Aa) (p1 : Ab) (v1 : (List Ad) × Int) (j4 : ((List Ad)) → Option ((List Ad))) : Nat → ((List Ad) × Int) → Option ((List Ad))
 | 0, _ => none
 | n4 + 1, v4 =>
  AR ((decide (v4.2 < (WB ((p0.fA.length : Int)) ((p0.fC.length : Int))))))
   (Ck N p0 p1 v1 v4 (fun (v8 : (List Ad)) =>
    Cq N p0 p1 v1 j4 n4 (v8, (wI .i64 (v4.2 + 1)))) N (v4.1, 0))
   (j4 v4.1)
def BE (N : Nat) (p0 : Aa) (p1 : Ab) (j1 : ((List Ad)) → Option ((List Ad))) : Nat → ((List Ad) × Int) → Option ((List Ad))
 | 0, _ => none
 | n1 + 1, v1 =>
  AR ((decide (v1.2 ≤ 3)))
   (Cq N p0 p1 v1 (fun (v5 : (List Ad)) =>
    BE N p0 p1 j1 n1 (v5, (wI .i64 (v1.2 + 1)))) N (v1.1, 0))
   (j1 v1.1)
def Eh (N : Nat) (p0 : Aa) (p1 : Ab) : Option ((List Ad)) :=
 BE N p0 p1 (fun (v2 : (List Ad)) =>
  some v2) N (([] : List Ad), 1)
def DK (N : Nat) (p0 : List Int) (p1 : List Int) (j1 : Unit → Option Int) : Nat → Int → Option Int
 | 0, _ => none
 | n1 + 1, v1 =>
  Be (fun (v3 : Bool) =>
   AR v3
    ((Br p0 v1).bind fun v6 =>
    (Br p1 v1).bind fun v7 =>
    AR ((decide (v6 < v7)))
     (some ((-1)))
     ((Br p0 v1).bind fun v9 =>
     (Br p1 v1).bind fun v10 =>
     AR ((decide (v10 < v9)))
      (some 1)
      (DK N p0 p1 j1 n1 (wI .i64 (v1 + 1)))))
    (j1 ()))
  fun j3 =>
  AR ((decide (v1 < (p0.length : Int))))
   (j3 (decide (v1 < (p1.length : Int))))
   (j3 false)
def DQ (N : Nat) (p0 : List Int) (p1 : List Int) : Option Int :=
 DK N p0 p1 (fun (_ : Unit) =>
  AR ((decide ((p0.length : Int) < (p1.length : Int))))
   (some ((-1)))
   (AR ((decide ((p1.length : Int) < (p0.length : Int))))
    (some 1)
    (some 0))) N 0
def Da (N : Nat) (p0 : List Int) (j1 : ((List Int)) → Option ((List Int))) : Nat → ((List Int) × Int) → Option ((List Int))
 | 0, _ => none
 | n1 + 1, v1 =>
  AR ((decide (v1.2 < (p0.length : Int))))
   ((Br p0 v1.2).bind fun v4 =>
   (DN (v1.1.length + (([(wI .i64 v4)] : List Int)).length ≤ Db)).bind fun _ =>
   Da N p0 j1 n1 (v1.1 ++ (([(wI .i64 v4)] : List Int)), (wI .i64 (v1.2 + 1))))
   (j1 v1.1)
def DH (N : Nat) (p0 : List Int) : Option ((List Int)) :=
 Da N p0 (fun (v2 : (List Int)) =>
  some v2) N (([] : List Int), 0)
def B3 (N : Nat) (p0 : Ab) (p1 : Ab) : Option Int :=
 (DQ N p0.fD p1.fD).bind fun v1 =>
 AR ((v1 != 0))
  (some v1)
  ((DQ N p0.fB p1.fB).bind fun v3 =>
  AR ((v3 != 0))
   (some v3)
   ((DH N p0.fE).bind fun v5 =>
   (DH N p1.fE).bind fun v6 =>
   (DQ N v5 v6).bind fun v7 =>
   some v7))
def EY (N : Nat) (p0 : Ab) (p1 : Ab) : Option Bool :=
 (B3 N p0 p1).bind fun v1 =>
 some ((v1 == 0))
def CB (N : Nat) (p0 : List AH) (p1 : Ab) (j1 : Unit → Option Int) : Nat → Int → Option Int
 | 0, _ => none
 | n1 + 1, v1 =>
  AR ((decide (v1 < (p0.length : Int))))
   ((Br p0 v1).bind fun v4 =>
   (EY N ((Ab.mk v4.fS.fD v4.fS.fB v4.fS.fE)) p1).bind fun v5 =>
   AR v5
    (some v1)
    (CB N p0 p1 j1 n1 (wI .i64 (v1 + 1))))
   (j1 ())
def Ew (N : Nat) (p0 : List AH) (p1 : Ab) : Option Int :=
 CB N p0 p1 (fun (_ : Unit) =>
  some ((-1))) N 0
def BV (N : Nat) (p0 : Aa) (p2 : Int) (v1 : (List AH) × Int) (v5 : (List Ad)) (j6 : ((List AH)) → Option ((List AH) × Bool)) : Nat → ((List AH) × Int) → Option ((List AH) × Bool)
 | 0, _ => none
 | n6 + 1, v6 =>
  AR ((decide (v6.2 < (v5.length : Int))))
   ((Br v6.1 v1.2).bind fun v9 =>
   (Br v5 v6.2).bind fun v10 =>
   (CF N p0 ((Ab.mk v9.fS.fD v9.fS.fB v9.fS.fE)) v10).bind fun v11 =>
   Be (fun (v12 : (List AH)) =>
    AR ((decide (p2 < (v12.length : Int))))
     (some (([] : List AH), false))
     (BV N p0 p2 v1 v5 j6 n6 (v12, (wI .i64 (v6.2 + 1)))))
   fun j12 =>
   Be (fun (v13 : Bool) =>
    AR v13
     ((Br v5 v6.2).bind fun v18 =>
     (DN (v6.1.length + (([(AH.mk v11.1 v1.2 v18)] : List AH)).length ≤ Db)).bind fun _ =>
     j12 (v6.1 ++ (([(AH.mk v11.1 v1.2 v18)] : List AH))))
     (j12 v6.1))
   fun j13 =>
   (Cm N p0 v11.1).bind fun v14 =>
   AR v14
    ((Ew N v6.1 v11.1).bind fun v16 =>
    j13 (decide (v16 < 0)))
    (j13 false))
   (j6 v6.1)
def BW (N : Nat) (p0 : Aa) (p2 : Int) (j1 : ((List AH)) → Option ((List AH) × Bool)) : Nat → ((List AH) × Int) → Option ((List AH) × Bool)
 | 0, _ => none
 | n1 + 1, v1 =>
  AR ((decide (v1.2 < (v1.1.length : Int))))
   ((Br v1.1 v1.2).bind fun v4 =>
   (Eh N p0 ((Ab.mk v4.fS.fD v4.fS.fB v4.fS.fE))).bind fun v5 =>
   BV N p0 p2 v1 v5 (fun (v7 : (List AH)) =>
    BW N p0 p2 j1 n1 (v7, (wI .i64 (v1.2 + 1)))) N (v1.1, 0))
   (j1 v1.1)
def Ea (N : Nat) (p0 : Aa) (p1 : Ab) (p2 : Int) : Option ((List AH) × Bool) :=
 BW N p0 p2 (fun (v2 : (List AH)) =>
  some (v2, true)) N (([(AH.mk p1 ((-1)) ((Ad.mk 0 0 0)))] : List AH), 0)
def E0 (N : Nat) (p0 : Aa) (p1 : Int) : Option Bool :=
 (Ef N p0).bind fun v1 =>
 Be (fun (v2 : Bool) =>
  AR v2
   (some true)
   ((Ea N p0 v1.1 p1).bind fun v6 =>
   some v6.2))
 fun j2 =>
 AR ((v1.2 != 0))
  (j2 true)
  ((Cm N p0 v1.1).bind fun v4 =>
  j2 (!v4))
def CZ (N : Nat) (p0 : Aa) (v4 : (List (List Int))) (j5 : Unit → Option Bool) : Nat → Int → Option Bool
 | 0, _ => none
 | n5 + 1, v5 =>
  AR ((decide (v5 < (v4.length : Int))))
   ((Br v4 v5).bind fun v8 =>
   (C2 N p0 v8).bind fun v9 =>
   Be (fun (v10 : Bool) =>
    AR v10
     (some false)
     (CZ N p0 v4 j5 n5 (wI .i64 (v5 + 1))))
   fun j10 =>
   AR ((v9.2 != 0))
    (j10 true)
    ((E0 N v9.1 120).bind fun v12 =>
    j10 (!v12)))
   (j5 ())
def FW (N : Nat) (p0 : Aa) : Option Bool :=
 (BM N p0).bind fun v1 =>
 AR ((v1 != 0))
  (some true)
  (AR ((decide (3 < (p0.fA.length : Int))))
   (some false)
   ((Cr N ((p0.fA.length : Int))).bind fun v4 =>
   CZ N p0 v4 (fun (_ : Unit) =>
    some true) N 0))
def FU (N : Nat) (p0 : BN) : Option (Aa × Bool) :=
 (FT N p0).bind fun v1 =>
 Be (fun (v2 : Bool) =>
  some (v1.1, v2))
 fun j2 =>
 AR v1.2
  ((FW N v1.1).bind fun v4 =>
  j2 v4)
  (j2 false)
def EU (_ : Nat) : Option ((List (List Bool))) :=
 some (([([true, false] : List Bool), ([false, true] : List Bool)] : List (List Bool)))
def Eo (N : Nat) (p0 : Bool) : Option Aa :=
 (EU N).bind fun v1 =>
 (EU N).bind fun v2 =>
 some ((Aa.mk (([2, 2, 2] : List Int)) (([0, 0, 0] : List Int)) (([1, 1, 1] : List Int)) (([(Am.mk 1 0 1 p0 v1 (([] : List (List Bool)))), (Am.mk 1 1 0 p0 v2 (([] : List (List Bool))))] : List Am))))
def DF (_ : Nat) (p0 : Int) (p1 : Int) : Option Bool :=
 Be (fun (v1 : Bool) =>
  some v1)
 fun j1 =>
 AR ((decide (0 ≤ p0)))
  (j1 (decide (p0 < p1)))
  (j1 false)
def HP (_ : Nat) (p0 : Int) (p1 : Bool) : Option Bool :=
 Be (fun (v1 : Bool) =>
  some v1)
 fun j1 =>
 AR ((p0 == 1))
  (j1 true)
  (AR ((p0 == 2))
   (j1 true)
   (AR ((p0 == 3))
    (j1 (!p1))
    (AR ((p0 == 4))
     (j1 (!p1))
     (j1 false))))
def Eu (_ : Nat) (p0 : List Bool) (p1 : Int) : Option Bool :=
 some (((p0.length : Int) != p1))
def Bu (N : Nat) (p0 : List (List Bool)) (p1 : (List Bool) → Option Bool) (j1 : Unit → Option Int) : Nat → Int → Option Int
 | 0, _ => none
 | n1 + 1, v1 =>
  AR ((decide (v1 < (p0.length : Int))))
   ((Br p0 v1).bind fun v4 =>
   (p1 v4).bind fun v5 =>
   AR v5
    (some v1)
    (Bu N p0 p1 j1 n1 (wI .i64 (v1 + 1))))
   (j1 ())
def DT (N : Nat) (p0 : List (List Bool)) (p1 : (List Bool) → Option Bool) : Option Int :=
 Bu N p0 p1 (fun (_ : Unit) =>
  some ((-1))) N 0
def Dp (N : Nat) (p0 : List (List Bool)) (p1 : (List Bool) → Option Bool) : Option Bool :=
 (DT N p0 p1).bind fun v1 =>
 some ((decide (0 ≤ v1)))
def FP (N : Nat) (p0 : List (List Bool)) (p1 : Int) (p2 : Int) : Option Bool :=
 Be (fun (v1 : Bool) =>
  some v1)
 fun j1 =>
 AR (((p0.length : Int) == p1))
  ((Dp N p0 ((fun (x : List Bool) => Eu N x p2))).bind fun v3 =>
  j1 (!v3))
  (j1 false)
def DE (N : Nat) (p1 : Am) (j19 : Unit → Option Int) : Nat → Int → Option Int
 | 0, _ => none
 | n19 + 1, v19 =>
  AR ((decide (v19 < (p1.fK.length : Int))))
   ((Br p1.fK v19).bind fun v22 =>
   (Br v22 v19).bind fun v23 =>
   AR ((!v23))
    (some 1)
    (DE N p1 j19 n19 (wI .i64 (v19 + 1))))
   (j19 ())
def Hc (N : Nat) (p0 : Aa) (p1 : Am) : Option Int :=
 (HP N p1.fG p1.fQ).bind fun v1 =>
 AR ((!v1))
  (some 1)
  (Be (fun (v3 : Bool) =>
   AR v3
    (some 4)
    ((Br p0.fA p1.fF).bind fun v8 =>
    Be (fun (v9 : Bool) =>
     AR v9
      (some 6)
      (DE N p1 (fun (_ : Unit) =>
       some 0) N 0))
    fun j9 =>
    (Br p0.fA p1.fJ).bind fun v10 =>
    (FP N p1.fP v8 v10).bind fun v11 =>
    AR ((!v11))
     (j9 true)
     (AR ((p1.fG == 4))
      ((FP N p1.fK v8 v8).bind fun v14 =>
      AR ((!v14))
       (j9 true)
       (AR ((!((p1.fG == 4))))
        (j9 (decide (0 < (p1.fK.length : Int))))
        (j9 false)))
      (AR ((!((p1.fG == 4))))
       (j9 (decide (0 < (p1.fK.length : Int))))
       (j9 false)))))
  fun j3 =>
  (DF N p1.fF ((p0.fA.length : Int))).bind fun v4 =>
  AR ((!v4))
   (j3 true)
   ((DF N p1.fJ ((p0.fA.length : Int))).bind fun v6 =>
   j3 (!v6)))
def Cb (N : Nat) (p0 : Aa) (j7 : Unit → Option Int) : Nat → Int → Option Int
 | 0, _ => none
 | n7 + 1, v7 =>
  AR ((decide (v7 < (p0.fA.length : Int))))
   ((Br p0.fA v7).bind fun v10 =>
   Be (fun (v11 : Bool) =>
    AR v11
     (some 7)
     (Cb N p0 j7 n7 (wI .i64 (v7 + 1))))
   fun j11 =>
   AR ((decide (v10 < 1)))
    (j11 true)
    (AR ((decide (6 < v10)))
     (j11 true)
     ((Br p0.fH v7).bind fun v14 =>
     (DF N v14 v10).bind fun v15 =>
     AR ((!v15))
      (j11 true)
      ((Br p0.fL v7).bind fun v17 =>
      (DF N v17 v10).bind fun v18 =>
      j11 (!v18)))))
   (j7 ())
def BZ (N : Nat) (p0 : Aa) (j20 : Unit → Option Int) : Nat → Int → Option Int
 | 0, _ => none
 | n20 + 1, v20 =>
  AR ((decide (v20 < (p0.fC.length : Int))))
   ((Br p0.fC v20).bind fun v23 =>
   (Hc N p0 v23).bind fun v24 =>
   AR ((v24 != 0))
    (some v24)
    (BZ N p0 j20 n20 (wI .i64 (v20 + 1))))
   (j20 ())
def Ci (N : Nat) (p0 : Aa) : Option Int :=
 Be (fun (v1 : Bool) =>
  AR v1
   (some 3)
   (Be (fun (v4 : Bool) =>
    AR v4
     (some 6)
     (Cb N p0 (fun (_ : Unit) =>
      BZ N p0 (fun (_ : Unit) =>
       some 0) N 0) N 0))
   fun j4 =>
   AR (((p0.fH.length : Int) != (p0.fA.length : Int)))
    (j4 true)
    (j4 ((p0.fL.length : Int) != (p0.fA.length : Int)))))
 fun j1 =>
 AR ((decide (6 < (p0.fA.length : Int))))
  (j1 true)
  (j1 (decide (12 < (p0.fC.length : Int))))
def GO (_ : Nat) (p0 : List Int) (p1 : (Int × Int) → Option Int) : Option (List Int) := Vq p1 (fun a b => decide (a = b)) p0
def Ge (_ : Nat) (p0 : Int) : Option Int :=
 (TO ((⟨⟨(zE4 (zE4 [0, 1, 1, 2, 1, 2, 2, 3, 1, 2, 2, 3, 2, 3, 3, 4, 1, 2, 2, 3, 2, 3, 3, 4, 2, 3, 3, 4, 3, 4, 4, 5, 1, 2, 2, 3, 2, 3, 3, 4, 2, 3, 3, 4, 3, 4, 4, 5, 2, 3, 3, 4, 3, 4, 4, 5, 3, 4, 4, 5, 4, 5, 5, 6] [1, 2, 2, 3, 2, 3, 3, 4, 2, 3, 3, 4, 3, 4, 4, 5, 2, 3, 3, 4, 3, 4, 4, 5, 3, 4, 4, 5, 4, 5, 5, 6, 2, 3, 3, 4, 3, 4, 4, 5, 3, 4, 4, 5, 4, 5, 5, 6, 3, 4, 4, 5, 4, 5, 5, 6, 4, 5, 5, 6, 5, 6, 6, 7]) (zE4 [1, 2, 2, 3, 2, 3, 3, 4, 2, 3, 3, 4, 3, 4, 4, 5, 2, 3, 3, 4, 3, 4, 4, 5, 3, 4, 4, 5, 4, 5, 5, 6, 2, 3, 3, 4, 3, 4, 4, 5, 3, 4, 4, 5, 4, 5, 5, 6, 3, 4, 4, 5, 4, 5, 5, 6, 4, 5, 5, 6, 5, 6, 6, 7] [2, 3, 3, 4, 3, 4, 4, 5, 3, 4, 4, 5, 4, 5, 5, 6, 3, 4, 4, 5, 4, 5, 5, 6, 4, 5, 5, 6, 5, 6, 6, 7, 3, 4, 4, 5, 4, 5, 5, 6, 4, 5, 5, 6, 5, 6, 6, 7, 4, 5, 5, 6, 5, 6, 6, 7, 5, 6, 6, 7, 6, 7, 7, 8]))⟩⟩ : ByteArray)) ((A2 .u32 p0 24))).bind fun v1 =>
 (TO ((⟨⟨(zE4 (zE4 [0, 1, 1, 2, 1, 2, 2, 3, 1, 2, 2, 3, 2, 3, 3, 4, 1, 2, 2, 3, 2, 3, 3, 4, 2, 3, 3, 4, 3, 4, 4, 5, 1, 2, 2, 3, 2, 3, 3, 4, 2, 3, 3, 4, 3, 4, 4, 5, 2, 3, 3, 4, 3, 4, 4, 5, 3, 4, 4, 5, 4, 5, 5, 6] [1, 2, 2, 3, 2, 3, 3, 4, 2, 3, 3, 4, 3, 4, 4, 5, 2, 3, 3, 4, 3, 4, 4, 5, 3, 4, 4, 5, 4, 5, 5, 6, 2, 3, 3, 4, 3, 4, 4, 5, 3, 4, 4, 5, 4, 5, 5, 6, 3, 4, 4, 5, 4, 5, 5, 6, 4, 5, 5, 6, 5, 6, 6, 7]) (zE4 [1, 2, 2, 3, 2, 3, 3, 4, 2, 3, 3, 4, 3, 4, 4, 5, 2, 3, 3, 4, 3, 4, 4, 5, 3, 4, 4, 5, 4, 5, 5, 6, 2, 3, 3, 4, 3, 4, 4, 5, 3, 4, 4, 5, 4, 5, 5, 6, 3, 4, 4, 5, 4, 5, 5, 6, 4, 5, 5, 6, 5, 6, 6, 7] [2, 3, 3, 4, 3, 4, 4, 5, 3, 4, 4, 5, 4, 5, 5, 6, 3, 4, 4, 5, 4, 5, 5, 6, 4, 5, 5, 6, 5, 6, 6, 7, 3, 4, 4, 5, 4, 5, 5, 6, 4, 5, 5, 6, 5, 6, 6, 7, 4, 5, 5, 6, 5, 6, 6, 7, 5, 6, 6, 7, 6, 7, 7, 8]))⟩⟩ : ByteArray)) ((AK .u32 ((A2 .u32 p0 16)) 255))).bind fun v2 =>
 (TO ((⟨⟨(zE4 (zE4 [0, 1, 1, 2, 1, 2, 2, 3, 1, 2, 2, 3, 2, 3, 3, 4, 1, 2, 2, 3, 2, 3, 3, 4, 2, 3, 3, 4, 3, 4, 4, 5, 1, 2, 2, 3, 2, 3, 3, 4, 2, 3, 3, 4, 3, 4, 4, 5, 2, 3, 3, 4, 3, 4, 4, 5, 3, 4, 4, 5, 4, 5, 5, 6] [1, 2, 2, 3, 2, 3, 3, 4, 2, 3, 3, 4, 3, 4, 4, 5, 2, 3, 3, 4, 3, 4, 4, 5, 3, 4, 4, 5, 4, 5, 5, 6, 2, 3, 3, 4, 3, 4, 4, 5, 3, 4, 4, 5, 4, 5, 5, 6, 3, 4, 4, 5, 4, 5, 5, 6, 4, 5, 5, 6, 5, 6, 6, 7]) (zE4 [1, 2, 2, 3, 2, 3, 3, 4, 2, 3, 3, 4, 3, 4, 4, 5, 2, 3, 3, 4, 3, 4, 4, 5, 3, 4, 4, 5, 4, 5, 5, 6, 2, 3, 3, 4, 3, 4, 4, 5, 3, 4, 4, 5, 4, 5, 5, 6, 3, 4, 4, 5, 4, 5, 5, 6, 4, 5, 5, 6, 5, 6, 6, 7] [2, 3, 3, 4, 3, 4, 4, 5, 3, 4, 4, 5, 4, 5, 5, 6, 3, 4, 4, 5, 4, 5, 5, 6, 4, 5, 5, 6, 5, 6, 6, 7, 3, 4, 4, 5, 4, 5, 5, 6, 4, 5, 5, 6, 5, 6, 6, 7, 4, 5, 5, 6, 5, 6, 6, 7, 5, 6, 6, 7, 6, 7, 7, 8]))⟩⟩ : ByteArray)) ((AK .u32 ((A2 .u32 p0 8)) 255))).bind fun v3 =>
 (TO ((⟨⟨(zE4 (zE4 [0, 1, 1, 2, 1, 2, 2, 3, 1, 2, 2, 3, 2, 3, 3, 4, 1, 2, 2, 3, 2, 3, 3, 4, 2, 3, 3, 4, 3, 4, 4, 5, 1, 2, 2, 3, 2, 3, 3, 4, 2, 3, 3, 4, 3, 4, 4, 5, 2, 3, 3, 4, 3, 4, 4, 5, 3, 4, 4, 5, 4, 5, 5, 6] [1, 2, 2, 3, 2, 3, 3, 4, 2, 3, 3, 4, 3, 4, 4, 5, 2, 3, 3, 4, 3, 4, 4, 5, 3, 4, 4, 5, 4, 5, 5, 6, 2, 3, 3, 4, 3, 4, 4, 5, 3, 4, 4, 5, 4, 5, 5, 6, 3, 4, 4, 5, 4, 5, 5, 6, 4, 5, 5, 6, 5, 6, 6, 7]) (zE4 [1, 2, 2, 3, 2, 3, 3, 4, 2, 3, 3, 4, 3, 4, 4, 5, 2, 3, 3, 4, 3, 4, 4, 5, 3, 4, 4, 5, 4, 5, 5, 6, 2, 3, 3, 4, 3, 4, 4, 5, 3, 4, 4, 5, 4, 5, 5, 6, 3, 4, 4, 5, 4, 5, 5, 6, 4, 5, 5, 6, 5, 6, 6, 7] [2, 3, 3, 4, 3, 4, 4, 5, 3, 4, 4, 5, 4, 5, 5, 6, 3, 4, 4, 5, 4, 5, 5, 6, 4, 5, 5, 6, 5, 6, 6, 7, 3, 4, 4, 5, 4, 5, 5, 6, 4, 5, 5, 6, 5, 6, 6, 7, 4, 5, 5, 6, 5, 6, 6, 7, 5, 6, 6, 7, 6, 7, 7, 8]))⟩⟩ : ByteArray)) ((AK .u32 p0 255))).bind fun v4 =>
 some ((wI .i64 ((wI .u8 ((wI .u8 ((wI .u8 (v1 + v2)) + v3)) + v4)))))
def F6 (_ : Nat) (p0 : Int) : Option Int :=
 some ((AK .i64 ((wI .i64 ((wI .u64 ((wI .u64 ((wI .u64 ((AK .u64 ((wI .u64 ((A2 .u64 ((wI .u64 ((AK .u64 ((A2 .u64 ((wI .u64 ((AK .u64 ((A2 .u64 p0 1)) 6148914691236517205) + (AK .u64 p0 6148914691236517205)))) 2)) 3689348814741910323) + (AK .u64 ((wI .u64 ((AK .u64 ((A2 .u64 p0 1)) 6148914691236517205) + (AK .u64 p0 6148914691236517205)))) 3689348814741910323)))) 4) + (wI .u64 ((AK .u64 ((A2 .u64 ((wI .u64 ((AK .u64 ((A2 .u64 p0 1)) 6148914691236517205) + (AK .u64 p0 6148914691236517205)))) 2)) 3689348814741910323) + (AK .u64 ((wI .u64 ((AK .u64 ((A2 .u64 p0 1)) 6148914691236517205) + (AK .u64 p0 6148914691236517205)))) 3689348814741910323)))))) 1085102592571150095) + (A2 .u64 ((AK .u64 ((wI .u64 ((A2 .u64 ((wI .u64 ((AK .u64 ((A2 .u64 ((wI .u64 ((AK .u64 ((A2 .u64 p0 1)) 6148914691236517205) + (AK .u64 p0 6148914691236517205)))) 2)) 3689348814741910323) + (AK .u64 ((wI .u64 ((AK .u64 ((A2 .u64 p0 1)) 6148914691236517205) + (AK .u64 p0 6148914691236517205)))) 3689348814741910323)))) 4) + (wI .u64 ((AK .u64 ((A2 .u64 ((wI .u64 ((AK .u64 ((A2 .u64 p0 1)) 6148914691236517205) + (AK .u64 p0 6148914691236517205)))) 2)) 3689348814741910323) + (AK .u64 ((wI .u64 ((AK .u64 ((A2 .u64 p0 1)) 6148914691236517205) + (AK .u64 p0 6148914691236517205)))) 3689348814741910323)))))) 1085102592571150095)) 8))) + (A2 .u64 ((wI .u64 ((AK .u64 ((wI .u64 ((A2 .u64 ((wI .u64 ((AK .u64 ((A2 .u64 ((wI .u64 ((AK .u64 ((A2 .u64 p0 1)) 6148914691236517205) + (AK .u64 p0 6148914691236517205)))) 2)) 3689348814741910323) + (AK .u64 ((wI .u64 ((AK .u64 ((A2 .u64 p0 1)) 6148914691236517205) + (AK .u64 p0 6148914691236517205)))) 3689348814741910323)))) 4) + (wI .u64 ((AK .u64 ((A2 .u64 ((wI .u64 ((AK .u64 ((A2 .u64 p0 1)) 6148914691236517205) + (AK .u64 p0 6148914691236517205)))) 2)) 3689348814741910323) + (AK .u64 ((wI .u64 ((AK .u64 ((A2 .u64 p0 1)) 6148914691236517205) + (AK .u64 p0 6148914691236517205)))) 3689348814741910323)))))) 1085102592571150095) + (A2 .u64 ((AK .u64 ((wI .u64 ((A2 .u64 ((wI .u64 ((AK .u64 ((A2 .u64 ((wI .u64 ((AK .u64 ((A2 .u64 p0 1)) 6148914691236517205) + (AK .u64 p0 6148914691236517205)))) 2)) 3689348814741910323) + (AK .u64 ((wI .u64 ((AK .u64 ((A2 .u64 p0 1)) 6148914691236517205) + (AK .u64 p0 6148914691236517205)))) 3689348814741910323)))) 4) + (wI .u64 ((AK .u64 ((A2 .u64 ((wI .u64 ((AK .u64 ((A2 .u64 p0 1)) 6148914691236517205) + (AK .u64 p0 6148914691236517205)))) 2)) 3689348814741910323) + (AK .u64 ((wI .u64 ((AK .u64 ((A2 .u64 p0 1)) 6148914691236517205) + (AK .u64 p0 6148914691236517205)))) 3689348814741910323)))))) 1085102592571150095)) 8)))) 16))) + (A2 .u64 ((wI .u64 ((wI .u64 ((AK .u64 ((wI .u64 ((A2 .u64 ((wI .u64 ((AK .u64 ((A2 .u64 ((wI .u64 ((AK .u64 ((A2 .u64 p0 1)) 6148914691236517205) + (AK .u64 p0 6148914691236517205)))) 2)) 3689348814741910323) + (AK .u64 ((wI .u64 ((AK .u64 ((A2 .u64 p0 1)) 6148914691236517205) + (AK .u64 p0 6148914691236517205)))) 3689348814741910323)))) 4) + (wI .u64 ((AK .u64 ((A2 .u64 ((wI .u64 ((AK .u64 ((A2 .u64 p0 1)) 6148914691236517205) + (AK .u64 p0 6148914691236517205)))) 2)) 3689348814741910323) + (AK .u64 ((wI .u64 ((AK .u64 ((A2 .u64 p0 1)) 6148914691236517205) + (AK .u64 p0 6148914691236517205)))) 3689348814741910323)))))) 1085102592571150095) + (A2 .u64 ((AK .u64 ((wI .u64 ((A2 .u64 ((wI .u64 ((AK .u64 ((A2 .u64 ((wI .u64 ((AK .u64 ((A2 .u64 p0 1)) 6148914691236517205) + (AK .u64 p0 6148914691236517205)))) 2)) 3689348814741910323) + (AK .u64 ((wI .u64 ((AK .u64 ((A2 .u64 p0 1)) 6148914691236517205) + (AK .u64 p0 6148914691236517205)))) 3689348814741910323)))) 4) + (wI .u64 ((AK .u64 ((A2 .u64 ((wI .u64 ((AK .u64 ((A2 .u64 p0 1)) 6148914691236517205) + (AK .u64 p0 6148914691236517205)))) 2)) 3689348814741910323) + (AK .u64 ((wI .u64 ((AK .u64 ((A2 .u64 p0 1)) 6148914691236517205) + (AK .u64 p0 6148914691236517205)))) 3689348814741910323)))))) 1085102592571150095)) 8))) + (A2 .u64 ((wI .u64 ((AK .u64 ((wI .u64 ((A2 .u64 ((wI .u64 ((AK .u64 ((A2 .u64 ((wI .u64 ((AK .u64 ((A2 .u64 p0 1)) 6148914691236517205) + (AK .u64 p0 6148914691236517205)))) 2)) 3689348814741910323) + (AK .u64 ((wI .u64 ((AK .u64 ((A2 .u64 p0 1)) 6148914691236517205) + (AK .u64 p0 6148914691236517205)))) 3689348814741910323)))) 4) + (wI .u64 ((AK .u64 ((A2 .u64 ((wI .u64 ((AK .u64 ((A2 .u64 p0 1)) 6148914691236517205) + (AK .u64 p0 6148914691236517205)))) 2)) 3689348814741910323) + (AK .u64 ((wI .u64 ((AK .u64 ((A2 .u64 p0 1)) 6148914691236517205) + (AK .u64 p0 6148914691236517205)))) 3689348814741910323)))))) 1085102592571150095) + (A2 .u64 ((AK .u64 ((wI .u64 ((A2 .u64 ((wI .u64 ((AK .u64 ((A2 .u64 ((wI .u64 ((AK .u64 ((A2 .u64 p0 1)) 6148914691236517205) + (AK .u64 p0 6148914691236517205)))) 2)) 3689348814741910323) + (AK .u64 ((wI .u64 ((AK .u64 ((A2 .u64 p0 1)) 6148914691236517205) + (AK .u64 p0 6148914691236517205)))) 3689348814741910323)))) 4) + (wI .u64 ((AK .u64 ((A2 .u64 ((wI .u64 ((AK .u64 ((A2 .u64 p0 1)) 6148914691236517205) + (AK .u64 p0 6148914691236517205)))) 2)) 3689348814741910323) + (AK .u64 ((wI .u64 ((AK .u64 ((A2 .u64 p0 1)) 6148914691236517205) + (AK .u64 p0 6148914691236517205)))) 3689348814741910323)))))) 1085102592571150095)) 8)))) 16)))) 32)))))) 127))
def Fo (N : Nat) (p0 : Int) : Option Int :=
 AR false
  ((Ge N ((wI .u32 p0))).bind fun v2 =>
  some v2)
  ((F6 N p0).bind fun v3 =>
  some v3)
def Hd (_ : Nat) (p0 : Int) : Option Int := eU p0
def GD (N : Nat) (j1 : ((List Int)) → Option ((List Int))) : Nat → ((List Int) × Int) → Option ((List Int))
 | 0, _ => none
 | n1 + 1, v1 =>
  AR ((v1.2 != 0))
   ((Hd N v1.2).bind fun v4 =>
   (DN (v1.1.length + (([v4] : List Int)).length ≤ Db)).bind fun _ =>
   GD N j1 n1 (v1.1 ++ (([v4] : List Int)), (AK .u64 v1.2 ((wI .u64 (v1.2 - 1))))))
   (j1 v1.1)
def FR (N : Nat) (p0 : Int) : Option ((List Int)) :=
 GD N (fun (v2 : (List Int)) =>
  some v2) N (([] : List Int), p0)
def Gk (_ : Nat) (p0 : Int) : Option Bool :=
 some ((p0 != p0))
def Fy (N : Nat) (p0 : Int) (p1 : Int) : Option Int :=
 (Gk N p0).bind fun v1 =>
 (Gk N p1).bind fun v2 =>
 AR v1
  (AR v2
   (some 0)
   (some ((-1))))
  (AR v2
   (some 1)
   (AR ((decide (p0 < p1)))
    (some ((-1)))
    (AR ((decide (p1 < p0)))
     (some 1)
     (some 0))))
def Cy (N : Nat) (p0 : List Int) (p1 : List Int) (j1 : Unit → Option Int) : Nat → Int → Option Int
 | 0, _ => none
 | n1 + 1, v1 =>
  AR ((decide (v1 < (p0.length : Int))))
   ((Br p0 v1).bind fun v4 =>
   AR ((decide ((p1.length : Int) ≤ v1)))
    (some 1)
    ((Br p1 v1).bind fun v6 =>
    (Fy N v4 v6).bind fun v7 =>
    AR ((v7 != 0))
     (some v7)
     (Cy N p0 p1 j1 n1 (wI .i64 (v1 + 1)))))
   (j1 ())
def Cv (N : Nat) (p0 : List Int) (p1 : List Int) : Option Int :=
 Cy N p0 p1 (fun (_ : Unit) =>
  AR ((decide ((p0.length : Int) < (p1.length : Int))))
   (some ((-1)))
   (some 0)) N 0
def HW (N : Nat) (p0 : Int) (p1 : Int) : Option Int :=
 (Fo N p0).bind fun v1 =>
 (Fo N p1).bind fun v2 =>
 AR (((wI .i64 (v1 - v2)) != 0))
  (some ((wI .i64 (v1 - v2))))
  ((FR N p0).bind fun v4 =>
  (FR N p1).bind fun v5 =>
  (Cv N v4 v5).bind fun v6 =>
  some v6)
def BT (N : Nat) (p0 : List Int) (p1 : Int) (j1 : Unit → Option Int) : Nat → Int → Option Int
 | 0, _ => none
 | n1 + 1, v1 =>
  AR ((decide (v1 < (p0.length : Int))))
   ((Br p0 v1).bind fun v4 =>
   AR ((p1 == v4))
    (some v1)
    (BT N p0 p1 j1 n1 (wI .i64 (v1 + 1))))
   (j1 ())
def Dv (N : Nat) (p0 : List Int) (p1 : Int) : Option Int :=
 BT N p0 p1 (fun (_ : Unit) =>
  some ((-1))) N 0
def C8 (_ : Nat) (p0 : List (List Bool)) : Option ((List (List Bool))) :=
 (DN ((([] : List (List Bool))).length + p0.length ≤ Db)).bind fun _ =>
 some ((([] : List (List Bool))) ++ p0)
def CQ (_ : Nat) (p0 : List Bool) : Option ((List Bool)) :=
 (DN ((([] : List Bool)).length + p0.length ≤ Db)).bind fun _ =>
 some ((([] : List Bool)) ++ p0)
def D7 (N : Nat) (v1 : (List (List Bool))) (j3 : ((List (List Bool))) → Option Am) : Nat → ((List (List Bool)) × Int) → Option Am
 | 0, _ => none
 | n3 + 1, v3 =>
  AR ((decide (v3.2 < (v1.length : Int))))
   ((Br v3.1 v3.2).bind fun v6 =>
   (CQ N v6).bind fun v7 =>
   (Br v3.1 v3.2).bind fun _ =>
   D7 N v1 j3 n3 (v3.1.set ((v3.2).toNat) v7, (wI .i64 (v3.2 + 1))))
   (j3 v3.1)
def De (N : Nat) (v2 : (List (List Bool))) (j9 : ((List (List Bool))) → Option Am) : Nat → ((List (List Bool)) × Int) → Option Am
 | 0, _ => none
 | n9 + 1, v9 =>
  AR ((decide (v9.2 < (v2.length : Int))))
   ((Br v9.1 v9.2).bind fun v12 =>
   (CQ N v12).bind fun v13 =>
   (Br v9.1 v9.2).bind fun _ =>
   De N v2 j9 n9 (v9.1.set ((v9.2).toNat) v13, (wI .i64 (v9.2 + 1))))
   (j9 v9.1)
def GJ (N : Nat) (p0 : Am) : Option Am :=
 (C8 N p0.fP).bind fun v1 =>
 (C8 N p0.fK).bind fun v2 =>
 D7 N v1 (fun (v4 : (List (List Bool))) =>
  De N v2 (fun (v10 : (List (List Bool))) =>
   some ((Am.mk p0.fG p0.fF p0.fJ p0.fQ v4 v10))) N (v2, 0)) N (v1, 0)
def CH (N : Nat) (p1 : List Int) (j3 : Unit → Option (Aa × Int)) : Nat → Int → Option (Aa × Int)
 | 0, _ => none
 | n3 + 1, v3 =>
  AR ((decide (v3 < (p1.length : Int))))
   (Be (fun (v6 : Bool) =>
    AR v6
     (some ((Aa.mk (([] : List Int)) (([] : List Int)) (([] : List Int)) (([] : List Am))), 1))
     (CH N p1 j3 n3 (wI .i64 (v3 + 1))))
   fun j6 =>
   AR ((decide (0 < v3)))
    ((Br p1 v3).bind fun v8 =>
    (Br p1 ((wI .i64 (v3 - 1)))).bind fun v9 =>
    j6 (decide (v8 ≤ v9)))
    (j6 false))
   (j3 ())
def DW (N : Nat) (p0 : Aa) (p1 : List Int) (j11 : ((List Int) × (List Int) × (List Int)) → Option (Aa × Int)) : Nat → ((List Int) × (List Int) × (List Int) × Int) → Option (Aa × Int)
 | 0, _ => none
 | n11 + 1, v11 =>
  AR ((decide (v11.2.2.2 < (p1.length : Int))))
   ((Br p1 v11.2.2.2).bind fun v14 =>
   (DF N v14 ((p0.fA.length : Int))).bind fun v15 =>
   AR ((!v15))
    (some ((Aa.mk (([] : List Int)) (([] : List Int)) (([] : List Int)) (([] : List Am))), 4))
    ((Br p0.fA v14).bind fun v17 =>
    (DN (v11.1.length + (([v17] : List Int)).length ≤ Db)).bind fun _ =>
    (Br p0.fH v14).bind fun v19 =>
    (DN (v11.2.1.length + (([v19] : List Int)).length ≤ Db)).bind fun _ =>
    (Br p0.fL v14).bind fun v21 =>
    (DN (v11.2.2.1.length + (([v21] : List Int)).length ≤ Db)).bind fun _ =>
    DW N p0 p1 j11 n11 (v11.1 ++ (([v17] : List Int)), v11.2.1 ++ (([v19] : List Int)), v11.2.2.1 ++ (([v21] : List Int)), (wI .i64 (v11.2.2.2 + 1)))))
   (j11 (v11.1, v11.2.1, v11.2.2.1))
def CV (N : Nat) (p0 : Aa) (p1 : List Int) (j23 : ((List Am)) → Option (Aa × Int)) : Nat → ((List Am) × Int) → Option (Aa × Int)
 | 0, _ => none
 | n23 + 1, v23 =>
  AR ((decide (v23.2 < (p0.fC.length : Int))))
   (Be (fun (v26 : (List Am)) =>
    CV N p0 p1 j23 n23 (v26, (wI .i64 (v23.2 + 1))))
   fun j26 =>
   (Br p0.fC v23.2).bind fun v27 =>
   (Dv N p1 v27.fF).bind fun v28 =>
   (Dv N p1 v27.fJ).bind fun v29 =>
   Be (fun (v30 : Bool) =>
    AR v30
     ((GJ N v27).bind fun v33 =>
     (DN (v23.1.length + (([(Am.mk v33.fG v28 v29 v33.fQ v33.fP v33.fK)] : List Am)).length ≤ Db)).bind fun _ =>
     j26 (v23.1 ++ (([(Am.mk v33.fG v28 v29 v33.fQ v33.fP v33.fK)] : List Am))))
     (j26 v23.1))
   fun j30 =>
   AR ((decide (0 ≤ v28)))
    (j30 (decide (0 ≤ v29)))
    (j30 false))
   (j23 v23.1)
def Fg (N : Nat) (p0 : Aa) (p1 : List Int) : Option (Aa × Int) :=
 (Ci N p0).bind fun v1 =>
 AR ((v1 != 0))
  (some ((Aa.mk (([] : List Int)) (([] : List Int)) (([] : List Int)) (([] : List Am))), v1))
  (CH N p1 (fun (_ : Unit) =>
   DW N p0 p1 (fun (v12 : (List Int) × (List Int) × (List Int)) =>
    CV N p0 p1 (fun (v24 : (List Am)) =>
     some ((Aa.mk v12.1 v12.2.1 v12.2.2 v24), 0)) N (([] : List Am), 0)) N (([] : List Int), ([] : List Int), ([] : List Int), 0)) N 0)
def BY (_ : Nat) (p0 : List Int) : Option ((List Int)) :=
 (DN ((([] : List Int)).length + p0.length ≤ Db)).bind fun _ =>
 some ((([] : List Int)) ++ p0)
def H5 (_ : Nat) (p0 : Int) (p1 : Int) : Option (Int × Int) :=
 some ((wI .u32 ((A2 .u64 ((wI .u64 ((wI .u64 p0) * (wI .u64 p1)))) 32))), (wI .u32 ((wI .u64 ((wI .u64 p0) * (wI .u64 p1))))))
def H0 (_ : Nat) (p0 : Int) (p1 : Int) : Option (Int × Int) :=
 some ((wI .u64 ((wI .u64 ((wI .u64 ((A2 .u64 p0 32) * (A2 .u64 p1 32))) + (A2 .u64 ((wI .u64 ((wI .u64 ((A2 .u64 p0 32) * (AK .u64 p1 4294967295))) + (A2 .u64 ((wI .u64 ((AK .u64 p0 4294967295) * (AK .u64 p1 4294967295)))) 32)))) 32))) + (A2 .u64 ((wI .u64 ((AK .u64 ((wI .u64 ((wI .u64 ((A2 .u64 p0 32) * (AK .u64 p1 4294967295))) + (A2 .u64 ((wI .u64 ((AK .u64 p0 4294967295) * (AK .u64 p1 4294967295)))) 32)))) 4294967295) + (wI .u64 ((AK .u64 p0 4294967295) * (A2 .u64 p1 32)))))) 32))), (wI .u64 (p0 * p1)))
def IM (N : Nat) (p0 : Int) (p1 : Int) : Option (Int × Int) :=
 AR false
  ((H5 N ((wI .u32 p0)) ((wI .u32 p1))).bind fun v2 =>
  some ((wI .u64 v2.1), (wI .u64 v2.2)))
  ((H0 N p0 p1).bind fun v3 =>
  some (v3.1, v3.2))
def Ek (N : Nat) (j9 : ((List Int)) → Option ((List Int))) : Nat → ((List Int) × Int) → Option ((List Int))
 | 0, _ => none
 | n9 + 1, v9 =>
  AR ((decide (v9.2 < (v9.1.length : Int))))
   ((DN ((0 : Int) ≤ v9.2 ∧ (v9.2).toNat ≤ v9.1.length ∧ v9.1.length ≤ v9.1.length)).bind fun _ =>
   (DN ((0 : Int) ≤ v9.2 ∧ 0 ≤ (v9.2).toNat ∧ (v9.2).toNat ≤ v9.1.length)).bind fun _ =>
   Ek N j9 n9 (JC v9.1 ((v9.2).toNat) ((((v9.1.drop 0).take ((v9.2).toNat))).take (zE9 (((v9.1.drop 0).take ((v9.2).toNat))).length ((v9.1.length - (v9.2).toNat)))), (wI .i64 (v9.2 + (((zE9 (((v9.1.drop 0).take ((v9.2).toNat))).length ((v9.1.length - (v9.2).toNat))) : Nat) : Int)))))
   (j9 v9.1)
def ET (N : Nat) (p0 : List Int) (p1 : Int) : Option ((List Int)) :=
 Be (fun (_ : Unit) =>
  (IM N ((wI .u64 ((p0.length : Int)))) ((wI .u64 p1))).bind fun v3 =>
  Be (fun (_ : Unit) =>
   (DN ((0 : Int) ≤ (wI .i64 v3.2) ∧ (wI .i64 v3.2) ≤ (wI .i64 v3.2) ∧ (wI .i64 v3.2) ≤ (Db : Int))).bind fun _ =>
   Ek N (fun (v10 : (List Int)) =>
    some v10) N (JC (zA5 ((wI .i64 v3.2)).toNat ((0 : Int))) 0 (p0.take (zE9 p0.length ((zA5 ((wI .i64 v3.2)).toNat ((0 : Int))).length))), (((zE9 p0.length ((zA5 ((wI .i64 v3.2)).toNat ((0 : Int))).length)) : Nat) : Int)))
  fun j4 =>
  Be (fun (v5 : Bool) =>
   AR v5
    (none)
    (j4 ()))
  fun j5 =>
  AR ((decide (0 < v3.1)))
   (j5 true)
   (j5 (decide (9223372036854775807 < v3.2))))
 fun j1 =>
 AR ((decide (p1 < 0)))
  (none)
  (j1 ())
def F8 (_ : Nat) (p0 : Am) : Option Bool :=
 Be (fun (v1 : Bool) =>
  some v1)
 fun j1 =>
 AR ((p0.fG == 3))
  (j1 true)
  (j1 (p0.fG == 4))
def EB (N : Nat) (p0 : Aa) (j6 : ((List Int)) → Option (Ab × Int)) : Nat → ((List Int) × Int) → Option (Ab × Int)
 | 0, _ => none
 | n6 + 1, v6 =>
  AR ((decide (v6.2 < (p0.fC.length : Int))))
   (Be (fun (v9 : (List Int)) =>
    EB N p0 j6 n6 (v9, (wI .i64 (v6.2 + 1))))
   fun j9 =>
   (Br p0.fC v6.2).bind fun v10 =>
   (F8 N v10).bind fun v11 =>
   AR v11
    ((Br p0.fH v10.fF).bind fun v13 =>
    (DN (0 ≤ v13)).bind fun _ =>
    (Br v6.1 v6.2).bind fun _ =>
    j9 (v6.1.set ((v6.2).toNat) ((D6 .u8 1 v13))))
    (j9 v6.1))
   (j6 v6.1)
def Hu (N : Nat) (p0 : Aa) : Option (Ab × Int) :=
 (Ci N p0).bind fun v1 =>
 AR ((v1 != 0))
  (some ((Ab.mk (([] : List Int)) (([] : List Int)) (([] : List Int))), v1))
  ((BY N p0.fH).bind fun v3 =>
  (ET N (([(-1)] : List Int)) ((p0.fH.length : Int))).bind fun v4 =>
  (DN ((0 : Int) ≤ (p0.fC.length : Int) ∧ (p0.fC.length : Int) ≤ (p0.fC.length : Int) ∧ (p0.fC.length : Int) ≤ (Db : Int))).bind fun _ =>
  EB N p0 (fun (v7 : (List Int)) =>
   some ((Ab.mk v3 v4 v7), 0)) N (zA5 ((p0.fC.length : Int)).toNat ((0 : Int)), 0))
def FB (_ : Nat) (p0 : Ab) (p1 : Int) : Option Int :=
 (Br p0.fD p1).bind fun v1 =>
 (DN (0 ≤ v1)).bind fun _ =>
 Be (fun (v3 : Int) =>
  some v3)
 fun j3 =>
 (Br p0.fB p1).bind fun v4 =>
 AR ((decide (0 ≤ v4)))
  ((Br p0.fB p1).bind fun v6 =>
  (DN (0 ≤ v6)).bind fun _ =>
  j3 (QC .u8 ((D6 .u8 1 v1)) ((D6 .u8 1 v6))))
  (j3 (D6 .u8 1 v1))
def ED (N : Nat) (p0 : Aa) (p1 : Ab) (j7 : Unit → Option Int) : Nat → Int → Option Int
 | 0, _ => none
 | n7 + 1, v7 =>
  AR ((decide (v7 < (p0.fA.length : Int))))
   ((Br p0.fA v7).bind fun v10 =>
   Be (fun (v11 : Bool) =>
    AR v11
     (some 7)
     ((Br p1.fD v7).bind fun v20 =>
     (Br p1.fB v7).bind fun v21 =>
     AR ((v20 == v21))
      (some 1)
      (ED N p0 p1 j7 n7 (wI .i64 (v7 + 1)))))
   fun j11 =>
   (Br p1.fD v7).bind fun v12 =>
   AR ((decide (v12 < 0)))
    (j11 true)
    ((Br p1.fD v7).bind fun v14 =>
    AR ((decide (v10 ≤ v14)))
     (j11 true)
     ((Br p1.fB v7).bind fun v16 =>
     AR ((decide (v16 < (-1))))
      (j11 true)
      ((Br p1.fB v7).bind fun v18 =>
      j11 (decide (v10 ≤ v18))))))
   (j7 ())
def Eb (N : Nat) (p0 : Aa) (p1 : Ab) (j23 : Unit → Option Int) : Nat → Int → Option Int
 | 0, _ => none
 | n23 + 1, v23 =>
  AR ((decide (v23 < (p0.fC.length : Int))))
   ((Br p0.fC v23).bind fun v26 =>
   Be (fun (v27 : Int × Int) =>
    Be (fun (v33 : Bool) =>
     AR v33
      (some 1)
      (Eb N p0 p1 j23 n23 (wI .i64 (v23 + 1))))
    fun j33 =>
    (Br p1.fE v23).bind fun v34 =>
    AR (((Dk .u8 v27.1 v34) != 0))
     (j33 true)
     ((Br p1.fE v23).bind fun v36 =>
     j33 ((Dk .u8 v36 v27.2) != 0)))
   fun j27 =>
   (F8 N v26).bind fun v28 =>
   AR v28
    ((FB N p1 v26.fF).bind fun v30 =>
    (Br p0.fA v26.fF).bind fun v31 =>
    (DN (0 ≤ v31)).bind fun _ =>
    j27 (v30, (wI .u8 ((D6 .u8 1 v31) - 1))))
    (j27 (0, 0)))
   (j23 ())
def FY (N : Nat) (p0 : Aa) (p1 : Ab) : Option Int :=
 (Ci N p0).bind fun v1 =>
 AR ((v1 != 0))
  (some v1)
  (Be (fun (v3 : Bool) =>
   AR v3
    (some 6)
    (ED N p0 p1 (fun (_ : Unit) =>
     Eb N p0 p1 (fun (_ : Unit) =>
      some 0) N 0) N 0))
  fun j3 =>
  AR (((p1.fD.length : Int) != (p0.fA.length : Int)))
   (j3 true)
   (AR (((p1.fB.length : Int) != (p0.fA.length : Int)))
    (j3 true)
    (j3 ((p1.fE.length : Int) != (p0.fC.length : Int)))))
def B2 (_ : Nat) (p0 : List Int) : Option ((List Int)) :=
 (DN ((([] : List Int)).length + p0.length ≤ Db)).bind fun _ =>
 some ((([] : List Int)) ++ p0)
def Eg (N : Nat) (p1 : Ab) (j3 : ((List Int)) → Option ((List Ab) × Int)) : Nat → ((List Int) × Int) → Option ((List Ab) × Int)
 | 0, _ => none
 | n3 + 1, v3 =>
  AR ((decide (v3.2 < (p1.fB.length : Int))))
   (Be (fun (v6 : (List Int)) =>
    Eg N p1 j3 n3 (v6, (wI .i64 (v3.2 + 1))))
   fun j6 =>
   (Br p1.fB v3.2).bind fun v7 =>
   AR ((decide (0 ≤ v7)))
    ((DN (v3.1.length + (([v3.2] : List Int)).length ≤ Db)).bind fun _ =>
    j6 (v3.1 ++ (([v3.2] : List Int))))
    (j6 v3.1))
   (j3 v3.1)
def Dm (N : Nat) (v4 : (List Int)) (v11 : (List Ab) × Int) (j17 : ((List Int)) → Option ((List Ab) × Int)) : Nat → ((List Int) × Int) → Option ((List Ab) × Int)
 | 0, _ => none
 | n17 + 1, v17 =>
  AR ((decide (v17.2 < (v4.length : Int))))
   (Be (fun (v20 : (List Int)) =>
    Dm N v4 v11 j17 n17 (v20, (wI .i64 (v17.2 + 1))))
   fun j20 =>
   (Br v4 v17.2).bind fun v21 =>
   (DN (0 ≤ v17.2)).bind fun _ =>
   AR (((AK .i64 ((A2 .i64 v11.2 v17.2)) 1) == 1))
    ((Br v17.1 v21).bind fun _ =>
    j20 (v17.1.set ((v21).toNat) ((-1))))
    (j20 v17.1))
   (j17 v17.1)
def Dn (N : Nat) (p1 : Ab) (v4 : (List Int)) (j11 : ((List Ab)) → Option ((List Ab) × Int)) : Nat → ((List Ab) × Int) → Option ((List Ab) × Int)
 | 0, _ => none
 | n11 + 1, v11 =>
  AR ((decide (v11.2 < (D6 .i64 1 ((v4.length : Int))))))
   ((BY N p1.fD).bind fun v14 =>
   (BY N p1.fB).bind fun v15 =>
   (B2 N p1.fE).bind fun v16 =>
   Dm N v4 v11 (fun (v18 : (List Int)) =>
    (DN (v11.1.length + (([(Ab.mk v14 v18 v16)] : List Ab)).length ≤ Db)).bind fun _ =>
    Dn N p1 v4 j11 n11 (v11.1 ++ (([(Ab.mk v14 v18 v16)] : List Ab)), (wI .i64 (v11.2 + 1)))) N (v15, 0))
   (j11 v11.1)
def Ga (N : Nat) (p0 : Aa) (p1 : Ab) : Option ((List Ab) × Int) :=
 (FY N p0 p1).bind fun v1 =>
 AR ((v1 != 0))
  (some (([] : List Ab), v1))
  (Eg N p1 (fun (v4 : (List Int)) =>
   (DN (0 ≤ (v4.length : Int))).bind fun _ =>
   Dn N p1 v4 (fun (v12 : (List Ab)) =>
    some (v12, 0)) N (([] : List Ab), 0)) N (([] : List Int), 0))
def B9 (N : Nat) (v1 : (List Ap) × Int) (v4 : Am) (v6 : Int) (v11 : (List Ap) × Int) (v17 : List Bool) (j18 : ((List Ap) × Bool) → Option ((List Ap))) : Nat → ((List Ap) × Bool × Int) → Option ((List Ap))
 | 0, _ => none
 | n18 + 1, v18 =>
  AR ((decide (v18.2.2 < (v17.length : Int))))
   (Be (fun (v21 : (List Ap) × Bool) =>
    B9 N v1 v4 v6 v11 v17 j18 n18 (v21.1, v21.2, (wI .i64 (v18.2.2 + 1))))
   fun j21 =>
   (Br v17 v18.2.2).bind fun v22 =>
   (DN (0 ≤ v18.2.2)).bind fun _ =>
   AR (((AK .u8 ((A2 .u8 v6 v18.2.2)) 1) == 0))
    (j21 (v18.1, v18.2.1))
    (Be (fun (v25 : Bool) =>
     Be (fun (v27 : Bool) =>
      AR v27
       ((DN (v18.1.length + (([(Ap.mk v1.2 v11.2 v18.2.2)] : List Ap)).length ≤ Db)).bind fun _ =>
       j21 (v18.1 ++ (([(Ap.mk v1.2 v11.2 v18.2.2)] : List Ap)), v25))
       (j21 (v18.1, v25)))
     fun j27 =>
     AR ((!v22))
      (j27 (!v4.fQ))
      (j27 false))
    fun j25 =>
    AR v18.2.1
     (j25 true)
     (j25 v22)))
   (j18 (v18.1, v18.2.1))
def CC (N : Nat) (v1 : (List Ap) × Int) (v4 : Am) (v6 : Int) (v7 : Int) (j11 : ((List Ap)) → Option ((List Ap))) : Nat → ((List Ap) × Int) → Option ((List Ap))
 | 0, _ => none
 | n11 + 1, v11 =>
  AR ((decide (v11.2 < (v4.fP.length : Int))))
   (Be (fun (v14 : (List Ap)) =>
    CC N v1 v4 v6 v7 j11 n11 (v14, (wI .i64 (v11.2 + 1))))
   fun j14 =>
   (DN (0 ≤ v11.2)).bind fun _ =>
   AR (((AK .u8 ((A2 .u8 v7 v11.2)) 1) == 0))
    (j14 v11.1)
    ((Br v4.fP v11.2).bind fun v17 =>
    B9 N v1 v4 v6 v11 v17 (fun (v19 : (List Ap) × Bool) =>
     Be (fun (v31 : Bool) =>
      AR v31
       ((DN (v19.1.length + (([(Ap.mk v1.2 v11.2 ((-1)))] : List Ap)).length ≤ Db)).bind fun _ =>
       j14 (v19.1 ++ (([(Ap.mk v1.2 v11.2 ((-1)))] : List Ap))))
       (j14 v19.1))
     fun j31 =>
     AR v4.fQ
      (j31 (!v19.2))
      (j31 false)) N (v11.1, false, 0)))
   (j11 v11.1)
def DP (N : Nat) (p0 : Aa) (p1 : Ab) (j1 : ((List Ap)) → Option ((List Ap))) : Nat → ((List Ap) × Int) → Option ((List Ap))
 | 0, _ => none
 | n1 + 1, v1 =>
  AR ((decide (v1.2 < (p0.fC.length : Int))))
   ((Br p0.fC v1.2).bind fun v4 =>
   (FB N p1 v4.fF).bind fun v5 =>
   (FB N p1 v4.fJ).bind fun v6 =>
   Be (fun (v7 : Int) =>
    CC N v1 v4 v6 v7 (fun (v12 : (List Ap)) =>
     DP N p0 p1 j1 n1 (v12, (wI .i64 (v1.2 + 1)))) N (v1.1, 0))
   fun j7 =>
   (F8 N v4).bind fun v8 =>
   AR v8
    ((Br p1.fE v1.2).bind fun v10 =>
    j7 v10)
    (j7 v5))
   (j1 v1.1)
def Gt (N : Nat) (p0 : Aa) (p1 : Ab) : Option ((List Ap)) :=
 DP N p0 p1 (fun (v2 : (List Ap)) =>
  some v2) N (([] : List Ap), 0)
def Fj (N : Nat) (p0 : Aa) (v1 : (List Ab) × Int) (j3 : Unit → Option (Ab × Ap × Int)) : Nat → Int → Option (Ab × Ap × Int)
 | 0, _ => none
 | n3 + 1, v3 =>
  AR ((decide (v3 < (v1.1.length : Int))))
   ((Br v1.1 v3).bind fun v6 =>
   (Gt N p0 v6).bind fun v7 =>
   AR ((decide (0 < (v7.length : Int))))
    ((Br v7 0).bind fun v9 =>
    some (v6, v9, 0))
    (Fj N p0 v1 j3 n3 (wI .i64 (v3 + 1))))
   (j3 ())
def GI (N : Nat) (p0 : Aa) (p1 : Ab) : Option (Ab × Ap × Int) :=
 (Ga N p0 p1).bind fun v1 =>
 AR ((v1.2 != 0))
  (some ((Ab.mk (([] : List Int)) (([] : List Int)) (([] : List Int))), (Ap.mk 0 0 0), v1.2))
  (Fj N p0 v1 (fun (_ : Unit) =>
   some ((Ab.mk (([] : List Int)) (([] : List Int)) (([] : List Int))), (Ap.mk 0 0 0), 15)) N 0)
def D0 (N : Nat) (p0 : Aa) (p1 : Ab) : Option (Bool × Int) :=
 (GI N p0 p1).bind fun v1 =>
 AR ((v1.2.2 == 0))
  (some (false, 0))
  (AR ((v1.2.2 == 15))
   (some (true, 0))
   (some (false, v1.2.2)))
def Fc (N : Nat) (p0 : Ab) (j2 : ((List Int)) → Option ByteArray) : Nat → ((List Int) × Int) → Option ByteArray
 | 0, _ => none
 | n2 + 1, v2 =>
  AR ((decide (v2.2 < (p0.fD.length : Int))))
   ((Br p0.fD v2.2).bind fun v5 =>
   (Br p0.fB v2.2).bind fun v6 =>
   (DN (v2.1.length + (([(wI .u8 v5), (wI .u8 ((wI .i64 (v6 + 1))))] : List Int)).length ≤ Db)).bind fun _ =>
   Fc N p0 j2 n2 (v2.1 ++ (([(wI .u8 v5), (wI .u8 ((wI .i64 (v6 + 1))))] : List Int)), (wI .i64 (v2.2 + 1))))
   (j2 v2.1)
def D2 (N : Nat) (p0 : Ab) (j8 : ((List Int)) → Option ByteArray) : Nat → ((List Int) × Int) → Option ByteArray
 | 0, _ => none
 | n8 + 1, v8 =>
  AR ((decide (v8.2 < (p0.fE.length : Int))))
   ((Br p0.fE v8.2).bind fun v11 =>
   (DN (v8.1.length + (([v11] : List Int)).length ≤ Db)).bind fun _ =>
   D2 N p0 j8 n8 (v8.1 ++ (([v11] : List Int)), (wI .i64 (v8.2 + 1))))
   (j8 v8.1)
def H8 (N : Nat) (p0 : Ab) : Option ByteArray :=
 (DN ((0 : Int) ≤ 0 ∧ 0 ≤ (wI .i64 ((wI .i64 (2 * (p0.fD.length : Int))) + (p0.fE.length : Int))) ∧ (wI .i64 ((wI .i64 (2 * (p0.fD.length : Int))) + (p0.fE.length : Int))) ≤ (Db : Int))).bind fun _ =>
 Fc N p0 (fun (v3 : (List Int)) =>
  D2 N p0 (fun (v9 : (List Int)) =>
   some ((CX v9))) N (v3, 0)) N (zA5 (0 : Int).toNat ((0 : Int)), 0)
def E9 (N : Nat) (v1 : (List Ad) × Int) (v4 : Int) (j5 : ((List Ad)) → Option ((List Ad))) : Nat → ((List Ad) × Int) → Option ((List Ad))
 | 0, _ => none
 | n5 + 1, v5 =>
  AR ((decide (v5.2 < v4)))
   ((DN (v5.1.length + (([(Ad.mk 1 v1.2 v5.2)] : List Ad)).length ≤ Db)).bind fun _ =>
   E9 N v1 v4 j5 n5 (v5.1 ++ (([(Ad.mk 1 v1.2 v5.2)] : List Ad)), (wI .i64 (v5.2 + 1))))
   (j5 v5.1)
def DC (N : Nat) (p0 : Aa) (j1 : ((List Ad)) → Option ((List Ad))) : Nat → ((List Ad) × Int) → Option ((List Ad))
 | 0, _ => none
 | n1 + 1, v1 =>
  AR ((decide (v1.2 < (p0.fA.length : Int))))
   ((Br p0.fA v1.2).bind fun v4 =>
   E9 N v1 v4 (fun (v6 : (List Ad)) =>
    DC N p0 j1 n1 (v6, (wI .i64 (v1.2 + 1)))) N (v1.1, 0))
   (j1 v1.1)
def CI (N : Nat) (p0 : Aa) (j9 : ((List Ad)) → Option ((List Ad))) : Nat → ((List Ad) × Int) → Option ((List Ad))
 | 0, _ => none
 | n9 + 1, v9 =>
  AR ((decide (v9.2 < (p0.fA.length : Int))))
   ((DN (v9.1.length + (([(Ad.mk 2 v9.2 0)] : List Ad)).length ≤ Db)).bind fun _ =>
   CI N p0 j9 n9 (v9.1 ++ (([(Ad.mk 2 v9.2 0)] : List Ad)), (wI .i64 (v9.2 + 1))))
   (j9 v9.1)
def BB (N : Nat) (p0 : Aa) (j13 : ((List Ad)) → Option ((List Ad))) : Nat → ((List Ad) × Int) → Option ((List Ad))
 | 0, _ => none
 | n13 + 1, v13 =>
  AR ((decide (v13.2 < (p0.fC.length : Int))))
   ((DN (v13.1.length + (([(Ad.mk 3 v13.2 0)] : List Ad)).length ≤ Db)).bind fun _ =>
   BB N p0 j13 n13 (v13.1 ++ (([(Ad.mk 3 v13.2 0)] : List Ad)), (wI .i64 (v13.2 + 1))))
   (j13 v13.1)
def I5 (N : Nat) (p0 : Aa) : Option ((List Ad)) :=
 DC N p0 (fun (v2 : (List Ad)) =>
  CI N p0 (fun (v10 : (List Ad)) =>
   BB N p0 (fun (v14 : (List Ad)) =>
    some v14) N (v10, 0)) N (v2, 0)) N (([] : List Ad), 0)
def He (N : Nat) (p0 : Ab) : Option Ab :=
 (BY N p0.fD).bind fun v1 =>
 (BY N p0.fB).bind fun v2 =>
 (B2 N p0.fE).bind fun v3 =>
 some ((Ab.mk v1 v2 v3))
def Gs (_ : Nat) (p0 : Am) : Option Bool :=
 Be (fun (v1 : Bool) =>
  some v1)
 fun j1 =>
 AR ((p0.fG == 3))
  (j1 true)
  (j1 (p0.fG == 4))
def Ej (N : Nat) (p0 : Aa) (p2 : Ad) (j7 : ((List Int)) → Option (Bool × (List Int) × (List Int))) : Nat → ((List Int) × Int) → Option (Bool × (List Int) × (List Int))
 | 0, _ => none
 | n7 + 1, v7 =>
  AR ((decide (v7.2 < (p0.fC.length : Int))))
   (Be (fun (v10 : (List Int)) =>
    Ej N p0 p2 j7 n7 (v10, (wI .i64 (v7.2 + 1))))
   fun j10 =>
   (Br p0.fC v7.2).bind fun v11 =>
   Be (fun (v12 : Bool) =>
    AR v12
     ((Br v7.1 v7.2).bind fun v16 =>
     (DN (0 ≤ p2.fO)).bind fun _ =>
     (Br v7.1 v7.2).bind fun _ =>
     j10 (v7.1.set ((v7.2).toNat) ((QC .u8 v16 ((D6 .u8 1 p2.fO))))))
     (j10 v7.1))
   fun j12 =>
   AR ((v11.fF == p2.fI))
    ((Gs N v11).bind fun v14 =>
    j12 v14)
    (j12 false))
   (j7 v7.1)
def I1 (N : Nat) (p0 : Aa) (p1 : Ab) (p2 : Ad) : Option (Bool × (List Int) × (List Int)) :=
 Be (fun (v1 : Bool) =>
  AR v1
   (some (false, p1.fB, p1.fE))
   ((Br p1.fB p2.fI).bind fun _ =>
   Ej N p0 p2 (fun (v8 : (List Int)) =>
    some (true, p1.fB.set ((p2.fI).toNat) p2.fO, v8)) N (p1.fE, 0)))
 fun j1 =>
 (Br p1.fB p2.fI).bind fun v2 =>
 AR ((decide (0 ≤ v2)))
  (j1 true)
  ((Br p1.fD p2.fI).bind fun v4 =>
  j1 (v4 == p2.fO))
def GK (_ : Nat) (p0 : Ab) (p1 : Int) : Option Int :=
 (Br p0.fD p1).bind fun v1 =>
 (DN (0 ≤ v1)).bind fun _ =>
 Be (fun (v3 : Int) =>
  some v3)
 fun j3 =>
 (Br p0.fB p1).bind fun v4 =>
 AR ((decide (0 ≤ v4)))
  ((Br p0.fB p1).bind fun v6 =>
  (DN (0 ≤ v6)).bind fun _ =>
  j3 (QC .u8 ((D6 .u8 1 v1)) ((D6 .u8 1 v6))))
  (j3 (D6 .u8 1 v1))
def Do (_ : Nat) (p0 : Int) : Option Int :=
 (TO ((⟨⟨(zE4 (zE4 [8, 0, 1, 0, 2, 0, 1, 0, 3, 0, 1, 0, 2, 0, 1, 0, 4, 0, 1, 0, 2, 0, 1, 0, 3, 0, 1, 0, 2, 0, 1, 0, 5, 0, 1, 0, 2, 0, 1, 0, 3, 0, 1, 0, 2, 0, 1, 0, 4, 0, 1, 0, 2, 0, 1, 0, 3, 0, 1, 0, 2, 0, 1, 0] [6, 0, 1, 0, 2, 0, 1, 0, 3, 0, 1, 0, 2, 0, 1, 0, 4, 0, 1, 0, 2, 0, 1, 0, 3, 0, 1, 0, 2, 0, 1, 0, 5, 0, 1, 0, 2, 0, 1, 0, 3, 0, 1, 0, 2, 0, 1, 0, 4, 0, 1, 0, 2, 0, 1, 0, 3, 0, 1, 0, 2, 0, 1, 0]) (zE4 [7, 0, 1, 0, 2, 0, 1, 0, 3, 0, 1, 0, 2, 0, 1, 0, 4, 0, 1, 0, 2, 0, 1, 0, 3, 0, 1, 0, 2, 0, 1, 0, 5, 0, 1, 0, 2, 0, 1, 0, 3, 0, 1, 0, 2, 0, 1, 0, 4, 0, 1, 0, 2, 0, 1, 0, 3, 0, 1, 0, 2, 0, 1, 0] [6, 0, 1, 0, 2, 0, 1, 0, 3, 0, 1, 0, 2, 0, 1, 0, 4, 0, 1, 0, 2, 0, 1, 0, 3, 0, 1, 0, 2, 0, 1, 0, 5, 0, 1, 0, 2, 0, 1, 0, 3, 0, 1, 0, 2, 0, 1, 0, 4, 0, 1, 0, 2, 0, 1, 0, 3, 0, 1, 0, 2, 0, 1, 0]))⟩⟩ : ByteArray)) p0).bind fun v1 =>
 some ((wI .i64 v1))
def DX (N : Nat) (p0 : Am) (p2 : Int) (j1 : Unit → Option Bool) : Nat → Int → Option Bool
 | 0, _ => none
 | n1 + 1, v1 =>
  AR ((v1 != 0))
   ((Do N v1).bind fun v4 =>
   (Br p0.fK v4).bind fun v5 =>
   (Br v5 p2).bind fun v6 =>
   AR ((!v6))
    (some false)
    (DX N p0 p2 j1 n1 (AK .u8 v1 ((wI .u8 (v1 - 1))))))
   (j1 ())
def GB (N : Nat) (p0 : Am) (p1 : Int) (p2 : Int) : Option Bool :=
 DX N p0 p2 (fun (_ : Unit) =>
  some true) N p1
def HM (N : Nat) (p0 : Aa) (p1 : Ab) (p2 : Int) : Option (Bool × (List Int)) :=
 (Br p0.fC p2).bind fun v1 =>
 (Gs N v1).bind fun v2 =>
 AR ((!v2))
  (some (false, p1.fE))
  ((GK N p1 v1.fF).bind fun v4 =>
  (Br p1.fE p2).bind fun v5 =>
  Be (fun (v6 : Bool) =>
   AR v6
    (some (false, p1.fE))
    ((Br p1.fE p2).bind fun _ =>
    some (true, p1.fE.set ((p2).toNat) v4)))
  fun j6 =>
  (Br p1.fE p2).bind fun v7 =>
  AR ((v7 == v4))
   (j6 true)
   (AR ((v1.fG == 4))
    ((Br p1.fD v1.fF).bind fun v10 =>
    (GB N v1 ((Dk .u8 v5 v4)) v10).bind fun v11 =>
    j6 (!v11))
    (j6 false)))
def F9 (N : Nat) (p0 : Aa) (p1 : Ab) (p2 : Ad) : Option (Ab × Bool) :=
 (He N p1).bind fun v1 =>
 AR ((p2.fG == 1))
  ((I1 N p0 v1 p2).bind fun v3 =>
  some ((Ab.mk v1.fD v3.2.1 v3.2.2), v3.1))
  (AR ((p2.fG == 3))
   ((HM N p0 v1 p2.fI).bind fun v5 =>
   some ((Ab.mk v1.fD v1.fB v5.2), v5.1))
   ((Br v1.fB p2.fI).bind fun v6 =>
   AR ((decide (v6 < 0)))
    (some (v1, false))
    ((Br v1.fB p2.fI).bind fun _ =>
    Be (fun (v9 : (List Int)) =>
     some ((Ab.mk v9 (v1.fB.set ((p2.fI).toNat) ((-1))) v1.fE), true))
    fun j9 =>
    AR ((p2.fG == 2))
     ((Br v1.fD p2.fI).bind fun _ =>
     j9 (v1.fD.set ((p2.fI).toNat) v6))
     (j9 v1.fD))))
def DR (N : Nat) (p0 : Ad) (p1 : List Int) (p2 : List Int) (p3 : List Int) (p4 : List Am) (p5 : List Int) (p6 : List Int) (p7 : List Int) : Option Bool :=
 (F9 N ((Aa.mk p1 p2 p3 p4)) ((Ab.mk p5 p6 p7)) p0).bind fun v1 =>
 some ((!v1.2))
def A8 (N : Nat) (p0 : List Ad) (p1 : Ad → Option Bool) (j1 : Unit → Option Int) : Nat → Int → Option Int
 | 0, _ => none
 | n1 + 1, v1 =>
  AR ((decide (v1 < (p0.length : Int))))
   ((Br p0 v1).bind fun v4 =>
   (p1 v4).bind fun v5 =>
   AR v5
    (some v1)
    (A8 N p0 p1 j1 n1 (wI .i64 (v1 + 1))))
   (j1 ())
def BX (N : Nat) (p0 : List Ad) (p1 : Ad → Option Bool) : Option Int :=
 A8 N p0 p1 (fun (_ : Unit) =>
  some ((-1))) N 0
def A3 (N : Nat) (p1 : Ad → Option Bool) (j3 : ((List Ad) × Int) → Option (Nat × (List Ad))) : Nat → ((List Ad) × Int × Int) → Option (Nat × (List Ad))
 | 0, _ => none
 | n3 + 1, v3 =>
  AR ((decide (v3.2.2 < (v3.1.length : Int))))
   (Be (fun (v6 : (List Ad) × Int) =>
    A3 N p1 j3 n3 (v6.1, v6.2, (wI .i64 (v3.2.2 + 1))))
   fun j6 =>
   (Br v3.1 v3.2.2).bind fun v7 =>
   (p1 v7).bind fun v8 =>
   AR ((!v8))
    ((Br v3.1 v3.2.1).bind fun _ =>
    j6 (v3.1.set ((v3.2.1).toNat) v7, (wI .i64 (v3.2.1 + 1))))
    (j6 (v3.1, v3.2.1)))
   (j3 (v3.1, v3.2.1))
def BS (N : Nat) (p0 : List Ad) (p1 : Ad → Option Bool) : Option (Nat × (List Ad)) :=
 (BX N p0 p1).bind fun v1 =>
 AR ((v1 == (-1)))
  (some (p0.length, p0))
  (A3 N p1 (fun (v4 : (List Ad) × Int) =>
   (DN ((0 : Int) ≤ v4.2 ∧ (v4.2).toNat ≤ v4.1.length ∧ v4.1.length ≤ v4.1.length)).bind fun _ =>
   (DN ((0 : Int) ≤ v4.2 ∧ 0 ≤ (v4.2).toNat ∧ (v4.2).toNat ≤ (JC v4.1 ((v4.2).toNat) (zA5 ((v4.1.length - (v4.2).toNat)) ((Ad.mk 0 0 0)))).length)).bind fun _ =>
   some ((v4.2).toNat, JC v4.1 ((v4.2).toNat) (zA5 ((v4.1.length - (v4.2).toNat)) ((Ad.mk 0 0 0))))) N (p0, v1, (wI .i64 (v1 + 1))))
def zFS (N : Nat) (p0 : Aa) (p1 : Ab) : Option ((List Ad) × Int) :=
 (FY N p0 p1).bind fun v1 =>
 AR ((v1 != 0))
  (some (([] : List Ad), v1))
  ((I5 N p0).bind fun v3 =>
  (BS N v3 ((fun (x : Ad) => DR N x p0.fA p0.fH p0.fL p0.fC p1.fD p1.fB p1.fE))).bind fun v4 =>
  (DN (v4.1 ≤ v4.2.length)).bind fun _ =>
  some (v4.2.take v4.1, 0))
def HI (_ : Nat) (p0 : Ad) : Option Bool :=
 Be (fun (v1 : Bool) =>
  AR v1
   (some false)
   (Be (fun (v5 : Bool) =>
    some v5)
   fun j5 =>
   AR ((p0.fG == 1))
    (j5 true)
    (j5 (p0.fO == 0))))
 fun j1 =>
 AR ((decide ((WZ p0.fI p0.fO) < 0)))
  (j1 true)
  (AR ((decide (p0.fG < 1)))
   (j1 true)
   (j1 (decide (4 < p0.fG))))
def Hj (_ : Nat) (p0 : Aa) (p1 : Ad) : Option Bool :=
 AR ((p1.fG == 3))
  (some ((decide (p1.fI < (p0.fC.length : Int)))))
  (Be (fun (v2 : Bool) =>
   some v2)
  fun j2 =>
  AR ((decide (p1.fI < (p0.fA.length : Int))))
   (AR ((p1.fG != 1))
    (j2 true)
    ((Br p0.fA p1.fI).bind fun v5 =>
    j2 (decide (p1.fO < v5))))
   (j2 false))
def HQ (N : Nat) (p0 : Aa) (p1 : Ab) (p2 : Ad) : Option (Ab × Int) :=
 (HI N p2).bind fun v1 =>
 AR ((!v1))
  (some ((Ab.mk (([] : List Int)) (([] : List Int)) (([] : List Int))), 1))
  ((Hj N p0 p2).bind fun v3 =>
  AR ((!v3))
   (some ((Ab.mk (([] : List Int)) (([] : List Int)) (([] : List Int))), 4))
   ((F9 N p0 p1 p2).bind fun v5 =>
   AR ((!v5.2))
    (some ((Ab.mk (([] : List Int)) (([] : List Int)) (([] : List Int))), 11))
    (some (v5.1, 0))))
def GS (N : Nat) (p0 : Aa) (p1 : Ab) (p2 : Ad) : Option (Ab × Int) :=
 (FY N p0 p1).bind fun v1 =>
 AR ((v1 != 0))
  (some ((Ab.mk (([] : List Int)) (([] : List Int)) (([] : List Int))), v1))
  ((HQ N p0 p1 p2).bind fun v3 =>
  some (v3.1, v3.2))
def CA (N : Nat) (p0 : Aa) (v2 : (List AD) × (List (ByteArray × Int)) × Int) (v6 : (List Ad) × Int) (j8 : ((List AD) × (List (ByteArray × Int))) → Option ((List AD) × Int)) : Nat → ((List AD) × (List (ByteArray × Int)) × Int) → Option ((List AD) × Int)
 | 0, _ => none
 | n8 + 1, v8 =>
  AR ((decide (v8.2.2 < (v6.1.length : Int))))
   ((Br v6.1 v8.2.2).bind fun v11 =>
   (Br v8.1 v2.2.2).bind fun v12 =>
   (GS N p0 ((Ab.mk v12.fN.fD v12.fN.fB v12.fN.fE)) v11).bind fun v13 =>
   AR ((v13.2 != 0))
    (some (([] : List AD), v13.2))
    ((H8 N v13.1).bind fun v15 =>
    Be (fun (v16 : (List AD) × (List (ByteArray × Int)) × Int) =>
     Be (fun (v24 : (List AD)) =>
      AR ((decide (20000 < (v24.length : Int))))
       (some (([] : List AD), 3))
       (CA N p0 v2 v6 j8 n8 (v24, v16.2.1, (wI .i64 (v8.2.2 + 1)))))
     fun j24 =>
     AR ((decide (0 ≤ v16.2.2)))
      ((Br v16.1 v2.2.2).bind fun v26 =>
      (DN (v26.fB.length + (([v16.2.2] : List Int)).length ≤ Db)).bind fun _ =>
      (Br v16.1 v2.2.2).bind fun v28 =>
      j24 (v16.1.set ((v2.2.2).toNat) ((AD.mk ((Ab.mk v28.fN.fD v28.fN.fB v28.fN.fE)) v28.fF ((Ad.mk v28.fR.fG v28.fR.fI v28.fR.fO)) (v26.fB ++ (([v16.2.2] : List Int)))))))
      (j24 v16.1))
    fun j16 =>
    AR ((!((IR v15 v8.2.1).isSome)))
     (Be (fun (v18 : (List AD) × Int) =>
      j16 (v18.1, Ng v15 v18.2 v8.2.1, v18.2))
     fun j18 =>
     (D0 N p0 v13.1).bind fun v19 =>
     Be (fun (v20 : Bool) =>
      AR v20
       (j18 (v8.1, (-1)))
       ((DN (v8.1.length + (([(AD.mk v13.1 v2.2.2 v11 (([] : List Int)))] : List AD)).length ≤ Db)).bind fun _ =>
       j18 (v8.1 ++ (([(AD.mk v13.1 v2.2.2 v11 (([] : List Int)))] : List AD)), (v8.1.length : Int))))
     fun j20 =>
     AR ((v19.2 != 0))
      (j20 true)
      (j20 (!v19.1)))
     (j16 (v8.1, v8.2.1, ((IR v15 v8.2.1).getD 0)))))
   (j8 (v8.1, v8.2.1))
def DV (N : Nat) (p0 : Aa) (j2 : ((List AD)) → Option ((List AD) × Int)) : Nat → ((List AD) × (List (ByteArray × Int)) × Int) → Option ((List AD) × Int)
 | 0, _ => none
 | n2 + 1, v2 =>
  AR ((decide (v2.2.2 < (v2.1.length : Int))))
   ((Br v2.1 v2.2.2).bind fun v5 =>
   (zFS N p0 ((Ab.mk v5.fN.fD v5.fN.fB v5.fN.fE))).bind fun v6 =>
   AR ((v6.2 != 0))
    (some (([] : List AD), v6.2))
    (CA N p0 v2 v6 (fun (v9 : (List AD) × (List (ByteArray × Int))) =>
     DV N p0 j2 n2 (v9.1, v9.2, (wI .i64 (v2.2.2 + 1)))) N (v2.1, v2.2.1, 0)))
   (j2 v2.1)
def G8 (N : Nat) (p0 : Aa) (p1 : Ab) : Option ((List AD) × Int) :=
 (H8 N p1).bind fun v1 =>
 DV N p0 (fun (v3 : (List AD)) =>
  some (v3, 0)) N (([(AD.mk p1 ((-1)) ((Ad.mk 0 0 0)) (([] : List Int)))] : List AD), Ng v1 0 (([] : List (ByteArray × Int))), 0)
def Cd (N : Nat) (p0 : List Int) (p1 : List Int) (j2 : Unit → Option Bool) : Nat → Int → Option Bool
 | 0, _ => none
 | n2 + 1, v2 =>
  AR ((decide (v2 < (p0.length : Int))))
   ((Br p0 v2).bind fun v5 =>
   (Br p1 v2).bind fun v6 =>
   AR ((v5 != v6))
    (some false)
    (Cd N p0 p1 j2 n2 (wI .i64 (v2 + 1))))
   (j2 ())
def Ei (N : Nat) (p0 : List Int) (p1 : List Int) : Option Bool :=
 AR (((p0.length : Int) != (p1.length : Int)))
  (some false)
  (Cd N p0 p1 (fun (_ : Unit) =>
   some true) N 0)
def Bm (N : Nat) (p0 : List Int) (p1 : Int → Option Bool) (j1 : Unit → Option Int) : Nat → Int → Option Int
 | 0, _ => none
 | n1 + 1, v1 =>
  AR ((decide (v1 < (p0.length : Int))))
   ((Br p0 v1).bind fun v4 =>
   (p1 v4).bind fun v5 =>
   AR v5
    (some v1)
    (Bm N p0 p1 j1 n1 (wI .i64 (v1 + 1))))
   (j1 ())
def El (N : Nat) (p0 : List Int) (p1 : Int → Option Bool) : Option Int :=
 Bm N p0 p1 (fun (_ : Unit) =>
  some ((-1))) N 0
def C3 (N : Nat) (p0 : List Int) (p1 : Int → Option Bool) : Option Bool :=
 (El N p0 p1).bind fun v1 =>
 some ((decide (0 ≤ v1)))
def HF (_ : Nat) (p0 : Int) : Option Bool :=
 some ((decide (0 ≤ p0)))
def H9 (N : Nat) (p0 : Aa) (p1 : Ab) : Option Bool :=
 Be (fun (v1 : Bool) =>
  some v1)
 fun j1 =>
 (FY N p0 p1).bind fun v2 =>
 AR ((v2 == 0))
  ((Ei N p1.fD p0.fL).bind fun v4 =>
  AR v4
   ((C3 N p1.fB ((fun (x : Int) => HF N x))).bind fun v6 =>
   j1 (!v6))
   (j1 false))
  (j1 false)
def E1 (N : Nat) (p0 : AD) (p1 : List Int) (p2 : List Int) (p3 : List Int) (p4 : List Am) : Option Bool :=
 (H9 N ((Aa.mk p1 p2 p3 p4)) ((Ab.mk p0.fN.fD p0.fN.fB p0.fN.fE))).bind fun v1 =>
 some v1
def A1 (N : Nat) (p0 : List AD) (p1 : AD → Option Bool) (j1 : Unit → Option Int) : Nat → Int → Option Int
 | 0, _ => none
 | n1 + 1, v1 =>
  AR ((decide (v1 < (p0.length : Int))))
   ((Br p0 v1).bind fun v4 =>
   (p1 ((AD.mk ((Ab.mk v4.fN.fD v4.fN.fB v4.fN.fE)) v4.fF ((Ad.mk v4.fR.fG v4.fR.fI v4.fR.fO)) v4.fB))).bind fun v5 =>
   AR v5
    (some v1)
    (A1 N p0 p1 j1 n1 (wI .i64 (v1 + 1))))
   (j1 ())
def Ct (N : Nat) (p0 : List AD) (p1 : AD → Option Bool) : Option Int :=
 A1 N p0 p1 (fun (_ : Unit) =>
  some ((-1))) N 0
def Bp (N : Nat) (j1 : ((List Ad)) → Option ((List Ad))) : Nat → ((List Ad) × Int × Int) → Option ((List Ad))
 | 0, _ => none
 | n1 + 1, v1 =>
  AR ((decide (v1.2.1 < v1.2.2)))
   ((Br v1.1 v1.2.2).bind fun v4 =>
   (Br v1.1 v1.2.1).bind fun v5 =>
   (Br v1.1 v1.2.1).bind fun _ =>
   (Br (v1.1.set ((v1.2.1).toNat) v4) v1.2.2).bind fun _ =>
   Bp N j1 n1 ((v1.1.set ((v1.2.1).toNat) v4).set ((v1.2.2).toNat) v5, (wI .i64 (v1.2.1 + 1)), (wI .i64 (v1.2.2 - 1))))
   (j1 v1.1)
def BF (N : Nat) (p0 : List Ad) : Option ((List Ad)) :=
 Bp N (fun (v2 : (List Ad)) =>
  some v2) N (p0, 0, (wI .i64 ((p0.length : Int) - 1)))
def Gq (N : Nat) (p0 : List AD) (j1 : ((List Ad)) → Option ((List Ad))) : Nat → (Int × (List Ad)) → Option ((List Ad))
 | 0, _ => none
 | n1 + 1, v1 =>
  (Br p0 v1.1).bind fun v3 =>
  AR ((decide (0 ≤ v3.fF)))
   ((Br p0 v1.1).bind fun v5 =>
   (DN (v1.2.length + (([(Ad.mk v5.fR.fG v5.fR.fI v5.fR.fO)] : List Ad)).length ≤ Db)).bind fun _ =>
   (Br p0 v1.1).bind fun v7 =>
   Gq N p0 j1 n1 (v7.fF, v1.2 ++ (([(Ad.mk v5.fR.fG v5.fR.fI v5.fR.fO)] : List Ad))))
   (j1 v1.2)
def Kr (N : Nat) (p0 : List AD) (p1 : Int) : Option ((List Ad)) :=
 Gq N p0 (fun (v2 : (List Ad)) =>
  (BF N v2).bind fun v8 =>
  some v8) N (p1, ([] : List Ad))
def F2 (N : Nat) (p0 : Aa) (p1 : Ab) : Option ((List Ad) × Int) :=
 (D0 N p0 p1).bind fun v1 =>
 AR ((v1.2 != 0))
  (some (([] : List Ad), v1.2))
  (AR ((!v1.1))
   (some (([] : List Ad), 13))
   ((G8 N p0 p1).bind fun v4 =>
   AR ((v4.2 != 0))
    (some (([] : List Ad), v4.2))
    ((Ct N v4.1 ((fun (x : AD) => E1 N x p0.fA p0.fH p0.fL p0.fC))).bind fun v6 =>
    AR ((decide (v6 < 0)))
     (some (([] : List Ad), 14))
     ((Kr N v4.1 v6).bind fun v8 =>
     some (v8, 0)))))
def GC (N : Nat) (p0 : Aa) : Option ((List Ad) × Int) :=
 (Hu N p0).bind fun v1 =>
 AR ((v1.2 != 0))
  (some (([] : List Ad), v1.2))
  ((F2 N p0 v1.1).bind fun v3 =>
  some (v3.1, v3.2))
def E5 (N : Nat) (p0 : Aa) (p1 : List Int) : Option (Bool × Int) :=
 (Ci N p0).bind fun v1 =>
 AR ((v1 != 0))
  (some (false, v1))
  ((Fg N p0 p1).bind fun v3 =>
  AR ((v3.2 != 0))
   (some (false, v3.2))
   ((GC N v3.1).bind fun v5 =>
   AR ((v5.2 == 0))
    (some (false, 0))
    (AR ((v5.2 == 3))
     (some (false, v5.2))
     (some (true, 0)))))
def JY (N : Nat) (p0 : Aa) (p1 : Int) : Option (Bool × Int) :=
 (FR N p1).bind fun v1 =>
 (E5 N p0 v1).bind fun v2 =>
 some (v2.1, v2.2)
def Hy (N : Nat) (p0 : Aa) (j4 : ((List Int)) → Option ((List Int) × (List (Int × Bool)) × Int)) : Nat → ((List Int) × Int) → Option ((List Int) × (List (Int × Bool)) × Int)
 | 0, _ => none
 | n4 + 1, v4 =>
  AR ((decide (v4.2 < (D6 .u64 1 ((p0.fA.length : Int))))))
   ((DN (v4.1.length + (([v4.2] : List Int)).length ≤ Db)).bind fun _ =>
   Hy N p0 j4 n4 (v4.1 ++ (([v4.2] : List Int)), (wI .u64 (v4.2 + 1))))
   (j4 v4.1)
def Hs (N : Nat) (p0 : Aa) (v8 : (List Int)) (j9 : ((List (Int × Bool))) → Option ((List Int) × (List (Int × Bool)) × Int)) : Nat → ((List (Int × Bool)) × Int) → Option ((List Int) × (List (Int × Bool)) × Int)
 | 0, _ => none
 | n9 + 1, v9 =>
  AR ((decide (v9.2 < (v8.length : Int))))
   ((Br v8 v9.2).bind fun v12 =>
   (JY N p0 v12).bind fun v13 =>
   AR ((v13.2 != 0))
    (some (([] : List Int), ([] : List (Int × Bool)), v13.2))
    (Hs N p0 v8 j9 n9 (Ng v12 v13.1 v9.1, (wI .i64 (v9.2 + 1)))))
   (j9 v9.1)
def IY (N : Nat) (p0 : Aa) : Option ((List Int) × (List (Int × Bool)) × Int) :=
 (Ci N p0).bind fun v1 =>
 AR ((v1 != 0))
  (some (([] : List Int), ([] : List (Int × Bool)), v1))
  ((DN (0 ≤ (p0.fA.length : Int))).bind fun _ =>
  Hy N p0 (fun (v5 : (List Int)) =>
   (GO N v5 ((fun (x : Int × Int) => HW N x.1 x.2))).bind fun v8 =>
   Hs N p0 v8 (fun (v10 : (List (Int × Bool))) =>
    some (v8, v10, 0)) N (([] : List (Int × Bool)), 0)) N (([] : List Int), 0))
def FV (_ : Nat) (p0 : Int) (p1 : Int) : Option Bool :=
 some (((Dk .u64 p0 p1) == 0))
def Dq (N : Nat) (p0 : List Int) (p1 : Int → Option Bool) (j1 : Unit → Option Int) : Nat → Int → Option Int
 | 0, _ => none
 | n1 + 1, v1 =>
  AR ((decide (v1 < (p0.length : Int))))
   ((Br p0 v1).bind fun v4 =>
   (p1 v4).bind fun v5 =>
   AR v5
    (some v1)
    (Dq N p0 p1 j1 n1 (wI .i64 (v1 + 1))))
   (j1 ())
def DU (N : Nat) (p0 : List Int) (p1 : Int → Option Bool) : Option Int :=
 Dq N p0 p1 (fun (_ : Unit) =>
  some ((-1))) N 0
def Dl (N : Nat) (p0 : List Int) (p1 : Int → Option Bool) : Option Bool :=
 (DU N p0 p1).bind fun v1 =>
 some ((decide (0 ≤ v1)))
def Gy (N : Nat) (p0 : List Int) (p1 : List (Int × Bool)) (j1 : ((List Int)) → Option ((List Int))) : Nat → ((List Int) × Int) → Option ((List Int))
 | 0, _ => none
 | n1 + 1, v1 =>
  AR ((decide (v1.2 < (p0.length : Int))))
   (Be (fun (v4 : (List Int)) =>
    Gy N p0 p1 j1 n1 (v4, (wI .i64 (v1.2 + 1))))
   fun j4 =>
   (Br p0 v1.2).bind fun v5 =>
   Be (fun (v6 : Bool) =>
    AR v6
     ((DN (v1.1.length + (([v5] : List Int)).length ≤ Db)).bind fun _ =>
     j4 (v1.1 ++ (([v5] : List Int))))
     (j4 v1.1))
   fun j6 =>
   AR (((IR v5 p1).getD false))
    ((Dl N v1.1 ((fun (x : Int) => FV N x v5))).bind fun v8 =>
    j6 (!v8))
    (j6 false))
   (j1 v1.1)
def Jh (N : Nat) (p0 : List Int) (p1 : List (Int × Bool)) : Option ((List Int)) :=
 Gy N p0 p1 (fun (v2 : (List Int)) =>
  some v2) N (([] : List Int), 0)
def Hw (N : Nat) (p0 : List Int) (j1 : ((List (List Int))) → Option ((List (List Int)))) : Nat → ((List (List Int)) × Int) → Option ((List (List Int)))
 | 0, _ => none
 | n1 + 1, v1 =>
  AR ((decide (v1.2 < (p0.length : Int))))
   ((Br p0 v1.2).bind fun v4 =>
   (FR N v4).bind fun v5 =>
   (DN (v1.1.length + (([v5] : List (List Int))).length ≤ Db)).bind fun _ =>
   Hw N p0 j1 n1 (v1.1 ++ (([v5] : List (List Int))), (wI .i64 (v1.2 + 1))))
   (j1 v1.1)
def IW (N : Nat) (p0 : List Int) : Option ((List (List Int))) :=
 Hw N p0 (fun (v2 : (List (List Int))) =>
  some v2) N (([] : List (List Int)), 0)
def LN (N : Nat) (p0 : Aa) : Option ((List (List Int)) × Int) :=
 (IY N p0).bind fun v1 =>
 AR ((v1.2.2 != 0))
  (some (([] : List (List Int)), v1.2.2))
  ((Jh N v1.1 v1.2.1).bind fun v3 =>
  (IW N v3).bind fun v4 =>
  some (v4, 0))
def FM (_ : Nat) (p0 : List Int) : Option ((List Int)) :=
 (DN ((([] : List Int)).length + p0.length ≤ Db)).bind fun _ =>
 some ((([] : List Int)) ++ p0)
def Gn (_ : Nat) (p0 : Int) (p1 : List (Int × Bool)) (p2 : Int) : Option Bool :=
 Be (fun (v1 : Bool) =>
  some v1)
 fun j1 =>
 AR ((!(((IR p0 p1).getD false))))
  (AR ((p0 != p2))
   (j1 ((Dk .u64 p2 p0) == 0))
   (j1 false))
  (j1 false)
def Hf (N : Nat) (p0 : Int) (p1 : List (Int × Bool)) (p2 : List Int) : Option Bool :=
 Be (fun (v1 : Bool) =>
  some v1)
 fun j1 =>
 AR (((IR p0 p1).getD false))
  (j1 true)
  ((Dl N p2 ((fun (x : Int) => Gn N x p1 p0))).bind fun v3 =>
  j1 v3)
def Dj (N : Nat) (p1 : Int → Option Bool) (j3 : ((List Int) × Int) → Option (Nat × (List Int))) : Nat → ((List Int) × Int × Int) → Option (Nat × (List Int))
 | 0, _ => none
 | n3 + 1, v3 =>
  AR ((decide (v3.2.2 < (v3.1.length : Int))))
   (Be (fun (v6 : (List Int) × Int) =>
    Dj N p1 j3 n3 (v6.1, v6.2, (wI .i64 (v3.2.2 + 1))))
   fun j6 =>
   (Br v3.1 v3.2.2).bind fun v7 =>
   (p1 v7).bind fun v8 =>
   AR ((!v8))
    ((Br v3.1 v3.2.1).bind fun _ =>
    j6 (v3.1.set ((v3.2.1).toNat) v7, (wI .i64 (v3.2.1 + 1))))
    (j6 (v3.1, v3.2.1)))
   (j3 (v3.1, v3.2.1))
def EQ (N : Nat) (p0 : List Int) (p1 : Int → Option Bool) : Option (Nat × (List Int)) :=
 (DU N p0 p1).bind fun v1 =>
 AR ((v1 == (-1)))
  (some (p0.length, p0))
  (Dj N p1 (fun (v4 : (List Int) × Int) =>
   (DN ((0 : Int) ≤ v4.2 ∧ (v4.2).toNat ≤ v4.1.length ∧ v4.1.length ≤ v4.1.length)).bind fun _ =>
   (DN ((0 : Int) ≤ v4.2 ∧ 0 ≤ (v4.2).toNat ∧ (v4.2).toNat ≤ (JC v4.1 ((v4.2).toNat) (zA5 ((v4.1.length - (v4.2).toNat)) ((0 : Int)))).length)).bind fun _ =>
   some ((v4.2).toNat, JC v4.1 ((v4.2).toNat) (zA5 ((v4.1.length - (v4.2).toNat)) ((0 : Int))))) N (p0, v1, (wI .i64 (v1 + 1))))
def La (N : Nat) (p0 : Aa) : Option ((List (List Int)) × Int) :=
 (IY N p0).bind fun v1 =>
 AR ((v1.2.2 != 0))
  (some (([] : List (List Int)), v1.2.2))
  ((FM N v1.1).bind fun v3 =>
  (EQ N v3 ((fun (x : Int) => Hf N x v1.2.1 v1.1))).bind fun v4 =>
  (DN (v4.1 ≤ v4.2.length)).bind fun _ =>
  (IW N (v4.2.take v4.1)).bind fun v7 =>
  some (v7, 0))
def Fq (N : Nat) (p0 : List Int) (p1 : List Int) (j2 : Unit → Option Bool) : Nat → Int → Option Bool
 | 0, _ => none
 | n2 + 1, v2 =>
  AR ((decide (v2 < (p0.length : Int))))
   ((Br p0 v2).bind fun v5 =>
   (Br p1 v2).bind fun v6 =>
   AR ((v5 != v6))
    (some false)
    (Fq N p0 p1 j2 n2 (wI .i64 (v2 + 1))))
   (j2 ())
def HC (N : Nat) (p0 : List Int) (p1 : List Int) : Option Bool :=
 AR (((p0.length : Int) != (p1.length : Int)))
  (some false)
  (Fq N p0 p1 (fun (_ : Unit) =>
   some true) N 0)
def Fh (N : Nat) (p0 : List (List Int)) (p1 : List (List Int)) (j2 : Unit → Option Bool) : Nat → Int → Option Bool
 | 0, _ => none
 | n2 + 1, v2 =>
  AR ((decide (v2 < (p0.length : Int))))
   ((Br p0 v2).bind fun v5 =>
   (Br p1 v2).bind fun v6 =>
   (HC N v5 v6).bind fun v7 =>
   AR ((!v7))
    (some false)
    (Fh N p0 p1 j2 n2 (wI .i64 (v2 + 1))))
   (j2 ())
def F1 (N : Nat) (p0 : List (List Int)) (p1 : List (List Int)) : Option Bool :=
 AR (((p0.length : Int) != (p1.length : Int)))
  (some false)
  (Fh N p0 p1 (fun (_ : Unit) =>
   some true) N 0)
def Ff (N : Nat) (j1 : Unit → Option Bool) : Nat → Int → Option Bool
 | 0, _ => none
 | n1 + 1, v1 =>
  AR ((decide (v1 < ((([false, true] : List Bool)).length : Int))))
   ((Br (([false, true] : List Bool)) v1).bind fun v4 =>
   (Eo N v4).bind fun v5 =>
   (LN N v5).bind fun v6 =>
   (Eo N v4).bind fun v7 =>
   (La N v7).bind fun v8 =>
   (Eo N v4).bind fun v9 =>
   (E5 N v9 (([0, 2] : List Int))).bind fun v10 =>
   Be (fun (v11 : Bool) =>
    AR v11
     (some false)
     (Ff N j1 n1 (wI .i64 (v1 + 1))))
   fun j11 =>
   AR ((v6.2 != 0))
    (j11 true)
    (AR ((v8.2 != 0))
     (j11 true)
     (AR ((v10.2 != 0))
      (j11 true)
      (AR v10.1
       (j11 true)
       ((F1 N v6.1 (([([0, 1] : List Int)] : List (List Int)))).bind fun v16 =>
       AR ((!v16))
        (j11 true)
        ((F1 N v8.1 (([([0, 2] : List Int), ([1, 2] : List Int)] : List (List Int)))).bind fun v18 =>
        j11 (!v18)))))))
   (j1 ())
def E6 (N : Nat) : Option Bool :=
 Ff N (fun (_ : Unit) =>
  some true) N 0
def Dw (N : Nat) (p0 : List Ab) (p1 : Ab) (j1 : Int → Option (Int × Bool)) : Nat → Int → Option (Int × Bool)
 | 0, _ => none
 | n1 + 1, v1 =>
  Be (fun (v3 : Bool) =>
   AR v3
    (Dw N p0 p1 j1 n1 (wI .i64 (v1 + 1)))
    (j1 v1))
  fun j3 =>
  AR ((decide (v1 < (p0.length : Int))))
   ((Br p0 v1).bind fun v5 =>
   (B3 N v5 p1).bind fun v6 =>
   j3 (decide (v6 < 0)))
   (j3 false)
def EW (N : Nat) (p0 : List Ab) (p1 : Ab) : Option (Int × Bool) :=
 Dw N p0 p1 (fun (v2 : Int) =>
  Be (fun (v8 : Bool) =>
   some (v2, v8))
  fun j8 =>
  AR ((decide (v2 < (p0.length : Int))))
   ((Br p0 v2).bind fun v10 =>
   (B3 N v10 p1).bind fun v11 =>
   j8 (v11 == 0))
   (j8 false)) N 0
def Cc (N : Nat) (p0 : Aa) (p1 : Int) (v4 : (List Ab) × (List Ab) × Int) (v8 : (List Ad)) (j9 : ((List Ab) × (List Ab)) → Option ((List Ab) × Bool)) : Nat → ((List Ab) × (List Ab) × Int) → Option ((List Ab) × Bool)
 | 0, _ => none
 | n9 + 1, v9 =>
  AR ((decide (v9.2.2 < (v8.length : Int))))
   (Be (fun (v12 : (List Ab) × (List Ab)) =>
    Cc N p0 p1 v4 v8 j9 n9 (v12.1, v12.2, (wI .i64 (v9.2.2 + 1))))
   fun j12 =>
   (Br v9.1 v4.2.2).bind fun v13 =>
   (Br v8 v9.2.2).bind fun v14 =>
   (CF N p0 v13 v14).bind fun v15 =>
   (EW N v9.2.1 v15.1).bind fun v16 =>
   Be (fun (v17 : Bool) =>
    AR v17
     (j12 (v9.1, v9.2.1))
     ((DN (v9.1.length + (([v15.1] : List Ab)).length ≤ Db)).bind fun _ =>
     (DN ((0 : Int) ≤ v16.1 ∧ 0 ≤ (v16.1).toNat ∧ (v16.1).toNat ≤ v9.2.1.length)).bind fun _ =>
     (DN ((([] : List Ab)).length + (((v9.2.1.drop 0).take ((v16.1).toNat - 0))).length ≤ Db)).bind fun _ =>
     (DN (((([] : List Ab)) ++ (((v9.2.1.drop 0).take ((v16.1).toNat - 0)))).length + (([v15.1] : List Ab)).length ≤ Db)).bind fun _ =>
     (DN ((0 : Int) ≤ v16.1 ∧ (v16.1).toNat ≤ v9.2.1.length ∧ v9.2.1.length ≤ v9.2.1.length)).bind fun _ =>
     (DN ((((([] : List Ab)) ++ (((v9.2.1.drop 0).take ((v16.1).toNat - 0)))) ++ (([v15.1] : List Ab))).length + (((v9.2.1.drop (v16.1).toNat).take (v9.2.1.length - (v16.1).toNat))).length ≤ Db)).bind fun _ =>
     AR ((decide (p1 < ((v9.1 ++ (([v15.1] : List Ab))).length : Int))))
      (some (([] : List Ab), false))
      (j12 (v9.1 ++ (([v15.1] : List Ab)), (((([] : List Ab)) ++ (((v9.2.1.drop 0).take ((v16.1).toNat - 0)))) ++ (([v15.1] : List Ab))) ++ (((v9.2.1.drop (v16.1).toNat).take (v9.2.1.length - (v16.1).toNat)))))))
   fun j17 =>
   AR v16.2
    (j17 true)
    ((Cm N p0 v15.1).bind fun v19 =>
    j17 (!v19)))
   (j9 (v9.1, v9.2.1))
def CN (N : Nat) (p0 : Aa) (p1 : Int) (j4 : ((List Ab)) → Option ((List Ab) × Bool)) : Nat → ((List Ab) × (List Ab) × Int) → Option ((List Ab) × Bool)
 | 0, _ => none
 | n4 + 1, v4 =>
  AR ((decide (v4.2.2 < (v4.1.length : Int))))
   ((Br v4.1 v4.2.2).bind fun v7 =>
   (Eh N p0 v7).bind fun v8 =>
   Cc N p0 p1 v4 v8 (fun (v10 : (List Ab) × (List Ab)) =>
    CN N p0 p1 j4 n4 (v10.1, v10.2, (wI .i64 (v4.2.2 + 1)))) N (v4.1, v4.2.1, 0))
   (j4 v4.2.1)
def CT (N : Nat) (p0 : Aa) (p1 : Int) : Option ((List Ab) × Bool) :=
 (Ef N p0).bind fun v1 =>
 (Cm N p0 v1.1).bind fun v2 =>
 AR ((!v2))
  (some (([] : List Ab), true))
  (CN N p0 p1 (fun (v5 : (List Ab)) =>
   some (v5, true)) N (([v1.1] : List Ab), ([v1.1] : List Ab), 0))
def EX (_ : Nat) (p0 : Int) : Option Bool :=
 some ((p0 != p0))
def Er (N : Nat) (p0 : Int) (p1 : Int) : Option Int :=
 (EX N p0).bind fun v1 =>
 (EX N p1).bind fun v2 =>
 AR v1
  (AR v2
   (some 0)
   (some ((-1))))
  (AR v2
   (some 1)
   (AR ((decide (p0 < p1)))
    (some ((-1)))
    (AR ((decide (p1 < p0)))
     (some 1)
     (some 0))))
def By (N : Nat) (p0 : List Int) (p1 : List Int) (j1 : Unit → Option Int) : Nat → Int → Option Int
 | 0, _ => none
 | n1 + 1, v1 =>
  AR ((decide (v1 < (p0.length : Int))))
   ((Br p0 v1).bind fun v4 =>
   AR ((decide ((p1.length : Int) ≤ v1)))
    (some 1)
    ((Br p1 v1).bind fun v6 =>
    (Er N v4 v6).bind fun v7 =>
    AR ((v7 != 0))
     (some v7)
     (By N p0 p1 j1 n1 (wI .i64 (v1 + 1)))))
   (j1 ())
def Cs (N : Nat) (p0 : List Int) (p1 : List Int) : Option Int :=
 By N p0 p1 (fun (_ : Unit) =>
  AR ((decide ((p0.length : Int) < (p1.length : Int))))
   (some ((-1)))
   (some 0)) N 0
def Ft (N : Nat) (p0 : List Int) (j1 : Unit → Option Int) : Nat → Int → Option Int
 | 0, _ => none
 | n1 + 1, v1 =>
  AR ((decide (v1 < (p0.length : Int))))
   ((Br p0 v1).bind fun v4 =>
   AR ((v4 != 0))
    (some v4)
    (Ft N p0 j1 n1 (wI .i64 (v1 + 1))))
   (j1 ())
def HK (N : Nat) (p0 : List Int) : Option Int :=
 Ft N p0 (fun (_ : Unit) =>
  some 0) N 0
def Dh (N : Nat) (p0 : Ab) (p1 : Ab) : Option Int :=
 (Cv N p0.fD p1.fD).bind fun v1 =>
 (Cv N p0.fB p1.fB).bind fun v2 =>
 (Cs N p0.fE p1.fE).bind fun v3 =>
 (HK N (([v1, v2, v3] : List Int))).bind fun v4 =>
 some v4
def AP (N : Nat) (p0 : List Ab) (p1 : Ab) (p2 : (Ab × Ab) → Option Int) (j1 : Int → Option (Int × Bool)) : Nat → (Int × Int) → Option (Int × Bool)
 | 0, _ => none
 | n1 + 1, v1 =>
  AR ((decide (v1.1 < v1.2)))
   ((Br p0 ((wI .i64 ((A2 .u64 ((wI .u64 ((wI .i64 (v1.1 + v1.2))))) 1))))).bind fun v4 =>
   (p2 ((v4, p1))).bind fun v5 =>
   AR ((decide (v5 < 0)))
    (AP N p0 p1 p2 j1 n1 ((wI .i64 ((wI .i64 ((A2 .u64 ((wI .u64 ((wI .i64 (v1.1 + v1.2))))) 1))) + 1)), v1.2))
    (AP N p0 p1 p2 j1 n1 (v1.1, (wI .i64 ((A2 .u64 ((wI .u64 ((wI .i64 (v1.1 + v1.2))))) 1))))))
   (j1 v1.1)
def Bw (N : Nat) (p0 : List Ab) (p1 : Ab) (p2 : (Ab × Ab) → Option Int) : Option (Int × Bool) :=
 AP N p0 p1 p2 (fun (v2 : Int) =>
  Be (fun (v7 : Bool) =>
   some (v2, v7))
  fun j7 =>
  AR ((decide (v2 < (p0.length : Int))))
   ((Br p0 v2).bind fun v9 =>
   (p2 ((v9, p1))).bind fun v10 =>
   j7 (v10 == 0))
   (j7 false)) N (0, (p0.length : Int))
def Fs (N : Nat) (p0 : List Ab) (p1 : Ab) : Option Bool :=
 (Bw N p0 p1 ((fun (x : Ab × Ab) => Dh N x.1 x.2))).bind fun v1 =>
 some v1.2
def EM (N : Nat) (p0 : Aa) (p1 : List Ab) (j5 : Unit → Option Bool) : Nat → Int → Option Bool
 | 0, _ => none
 | n5 + 1, v5 =>
  AR ((decide (v5 < (p1.length : Int))))
   ((Br p1 v5).bind fun v8 =>
   Be (fun (v9 : Bool) =>
    AR v9
     (some false)
     ((D0 N p0 v8).bind fun v14 =>
     Be (fun (v15 : Bool) =>
      AR v15
       (some false)
       (EM N p0 p1 j5 n5 (wI .i64 (v5 + 1))))
     fun j15 =>
     AR ((!v14.1))
      (j15 true)
      (AR ((v14.2 != 0))
       (j15 true)
       ((H9 N p0 v8).bind fun v18 =>
       j15 v18))))
   fun j9 =>
   AR ((decide (0 < v5)))
    ((Br p1 ((wI .i64 (v5 - 1)))).bind fun v11 =>
    (Dh N v11 v8).bind fun v12 =>
    j9 (decide (0 ≤ v12)))
    (j9 false))
   (j5 ())
def Ev (N : Nat) (p0 : Aa) (p1 : List Ab) (v25 : Ab) (v26 : (List Ad) × Int) (j27 : Unit → Option Bool) : Nat → Int → Option Bool
 | 0, _ => none
 | n27 + 1, v27 =>
  AR ((decide (v27 < (v26.1.length : Int))))
   ((Br v26.1 v27).bind fun v30 =>
   (GS N p0 v25 v30).bind fun v31 =>
   (D0 N p0 v31.1).bind fun v32 =>
   Be (fun (v33 : Bool) =>
    AR v33
     (some false)
     (Ev N p0 p1 v25 v26 j27 n27 (wI .i64 (v27 + 1))))
   fun j33 =>
   AR v32.1
    ((Fs N p1 v31.1).bind fun v35 =>
    j33 (!v35))
    (j33 false))
   (j27 ())
def Ey (N : Nat) (p0 : Aa) (p1 : List Ab) (j22 : Unit → Option Bool) : Nat → Int → Option Bool
 | 0, _ => none
 | n22 + 1, v22 =>
  AR ((decide (v22 < (p1.length : Int))))
   ((Br p1 v22).bind fun v25 =>
   (zFS N p0 v25).bind fun v26 =>
   Ev N p0 p1 v25 v26 (fun (_ : Unit) =>
    Ey N p0 p1 j22 n22 (wI .i64 (v22 + 1))) N 0)
   (j22 ())
def GP (N : Nat) (p0 : Aa) (p1 : List Ab) : Option Bool :=
 (Hu N p0).bind fun v1 =>
 AR ((v1.2 != 0))
  (some false)
  ((D0 N p0 v1.1).bind fun v3 =>
  AR ((!v3.1))
   (some (((p1.length : Int) == 0)))
   (EM N p0 p1 (fun (_ : Unit) =>
    (Fs N p1 v1.1).bind fun v20 =>
    AR ((!v20))
     (some false)
     (Ey N p0 p1 (fun (_ : Unit) =>
      some true) N 0)) N 0))
def Gb (N : Nat) (p0 : Aa) (p1 : List Int) (p2 : List Ab) : Option Bool :=
 (Fg N p0 p1).bind fun v1 =>
 Be (fun (v2 : Bool) =>
  some v2)
 fun j2 =>
 AR ((v1.2 == 0))
  ((GP N v1.1 p2).bind fun v4 =>
  j2 v4)
  (j2 false)
def Bq (N : Nat) (v7 : (List (List Int))) (j8 : Unit → Option Bool) : Nat → ((List Int) × (List Int) × (List Int) × (List Am) × Int) → Option Bool
 | 0, _ => none
 | n8 + 1, v8 =>
  AR ((decide (v8.2.2.2.2 < (v7.length : Int))))
   ((Br v7 v8.2.2.2.2).bind fun v11 =>
   (C2 N ((Aa.mk v8.1 v8.2.1 v8.2.2.1 v8.2.2.2.1)) v11).bind fun v12 =>
   AR ((v12.2 != 0))
    (some false)
    ((CT N v12.1 1000).bind fun v14 =>
    (E5 N ((Aa.mk v8.1 v8.2.1 v8.2.2.1 v8.2.2.2.1)) v11).bind fun v15 =>
    Be (fun (v16 : Bool) =>
     AR v16
      (some false)
      (Bq N v7 j8 n8 (v8.1, v8.2.1, v8.2.2.1, v8.2.2.2.1, (wI .i64 (v8.2.2.2.2 + 1)))))
    fun j16 =>
    AR ((!v14.2))
     (j16 true)
     (AR ((v15.2 != 0))
      (j16 true)
      ((Gb N ((Aa.mk v8.1 v8.2.1 v8.2.2.1 v8.2.2.2.1)) v11 v14.1).bind fun v19 =>
      j16 (!(v19 == v15.1))))))
   (j8 ())
def CY (N : Nat) (p0 : BN) : Option Bool :=
 (FU N p0).bind fun v1 =>
 Be (fun (v2 : Bool) =>
  AR v2
   ((E6 N).bind fun v6 =>
   some v6)
   ((Cr N ((v1.1.fA.length : Int))).bind fun v7 =>
   Bq N v7 (fun (_ : Unit) =>
    some true) N (v1.1.fA, v1.1.fH, v1.1.fL, v1.1.fC, 0)))
 fun j2 =>
 (E6 N).bind fun v3 =>
 AR ((!v3))
  (j2 true)
  (j2 (!v1.2))
def O8 {α : Type} (w : α → Prop) (xs : List α) : Prop := ∀ x, x ∈ xs → w x
def Mz (n : Int) : Prop := (Lit.int .u8 n).wf = true
def aI (n : Int) : Prop := (Lit.int .u16 n).wf = true
def II (x : HY) : Prop := Mz x.fG ∧ Mz x.fF ∧ Mz x.fJ ∧ (fun _ => True) x.fQ ∧ aI x.fU ∧ aI x.fV ∧ True
def F0 (x : BN) : Prop := (O8 Mz) x.fA ∧ (O8 Mz) x.fH ∧ (O8 Mz) x.fL ∧ (O8 II) x.fT ∧ True
open Go.RowKit
open Go.Proofs
abbrev Of (x : HY) : List C := [.pure (.val (.int .u8 x.fG)), .pure (.val (.int .u8 x.fF)), .pure (.val (.int .u8 x.fJ)), .pure (.val (.bool x.fQ)), .pure (.val (.int .u16 x.fU)), .pure (.val (.int .u16 x.fV))]
abbrev C6 (x : BN) : List C := [sC (x.fA.map DL), sC (x.fH.map DL), sC (x.fL.map DL), sC (x.fT.map Hx)]
abbrev Bg (x : Am) : List C := [iC x.fG, iC x.fF, iC x.fJ, .pure (.val (.bool x.fQ)), sC (x.fP.map (FO eB)), sC (x.fK.map (FO eB))]
abbrev Ah (x : Aa) : List C := [sC (x.fA.map Ak), sC (x.fH.map Ak), sC (x.fL.map Ak), sC (x.fC.map AO)]
abbrev AE (x : Ab) : List C := [sC (x.fD.map Ak), sC (x.fB.map Ak), sC (x.fE.map DL)]
abbrev NH (x : Ap) : List C := [iC x.fW, iC x.fX, iC x.fY]
abbrev DA (x : Ad) : List C := [iC x.fG, iC x.fI, iC x.fO]
abbrev Wi (x : AD) : List C := [sC (x.fN.fD.map Ak), sC (x.fN.fB.map Ak), sC (x.fN.fE.map DL), iC x.fF, iC x.fR.fG, iC x.fR.fI, iC x.fR.fO, sC (x.fB.map Ak)]
theorem Av : Tryz.prog.follows .mixedOrders = true := by kernel_rfl
theorem wq {X : Jm} {y : Code} {id : Nat} {ops : Array Oper} {dr : Bool} {Q : Exit → St → Prop} {st : St} {n : Nat} (hn : ops.size = n) (h : Bh zA0 X ops dr (fun st' => W zA0 X y Q st') n 0 st []) : W zA0 X (.seq (.region id ops dr) y) Q st := fv Av hn h
theorem wp {X : Jm} {y z : Code} {id : Nat} {ops : Array Oper} {dr : Bool} {Q : Exit → St → Prop} {st : St} {n : Nat} (hn : ops.size = n) (h : Bh zA0 X ops dr (fun st' => W zA0 X y (Q8 (W zA0 X z Q) Q) st') n 0 st []) : W zA0 X (.seq (.seq (.region id ops dr) y) z) Q st := AL (fv Av hn h)
theorem dH : FX zA0 101 true = true := by kernel_rfl
theorem Iy : FX zA0 120 false = true := by kernel_rfl
theorem cj : FX zA0 136 true = true := by kernel_rfl
theorem VL : FX zA0 149 true = true := by kernel_rfl
theorem Yv : FX zA0 22 false = true := by kernel_rfl
theorem bu : FX zA0 23 false = true := by kernel_rfl
theorem dJ : FX zA0 25 true = true := by kernel_rfl
theorem A7 : FX zA0 26 false = true := by kernel_rfl
theorem Hp : FX zA0 27 false = true := by kernel_rfl
theorem CO : FX zA0 29 true = true := by kernel_rfl
theorem B1 : FX zA0 3 false = true := by kernel_rfl
theorem Uq : FX zA0 4 false = true := by kernel_rfl
theorem HO : FX zA0 47 false = true := by kernel_rfl
theorem Bn : FX zA0 49 true = true := by kernel_rfl
theorem cL : FX zA0 5 false = true := by kernel_rfl
theorem O9 : FX zA0 61 false = true := by kernel_rfl
theorem cy : FX zA0 66 false = true := by kernel_rfl
theorem dE : FX zA0 67 false = true := by kernel_rfl
theorem P9 : FX zA0 71 false = true := by kernel_rfl
theorem IL : FX zA0 82 false = true := by kernel_rfl
theorem Ha : FX zA0 84 true = true := by kernel_rfl
theorem Jk : FX zA0 94 true = true := by kernel_rfl
theorem d7 : FX zA0 99 false = true := by kernel_rfl
theorem fy : RC zA0 4 = true := by kernel_rfl
theorem dS : SR zA0 22 = true := by kernel_rfl
theorem Qg : Fv zA0 120 1 = true := by kernel_rfl
theorem aE : Fv zA0 136 128 = true := by kernel_rfl
theorem aT : Fv zA0 140 104 = true := by kernel_rfl
theorem SJ : Fv zA0 149 24 = true := by kernel_rfl
theorem aj : Fv zA0 26 24 = true := by kernel_rfl
theorem Ki : Fv zA0 3 8 = true := by kernel_rfl
theorem Xg : Fv zA0 4 1 = true := by kernel_rfl
theorem Ro : Fv zA0 49 72 = true := by kernel_rfl
theorem bB : Fv zA0 5 1 = true := by kernel_rfl
theorem X3 : Fv zA0 61 24 = true := by kernel_rfl
theorem XS : Fv zA0 71 8 = true := by kernel_rfl
theorem WW : Fv zA0 84 80 = true := by kernel_rfl
theorem TQ : Fv zA0 94 24 = true := by kernel_rfl
theorem Xz : Dc zA0 101 0 0 = true := by kernel_rfl
theorem Yk : Dc zA0 101 1 1 = true := by kernel_rfl
theorem Xe : Dc zA0 101 2 2 = true := by kernel_rfl
theorem XM : Dc zA0 101 3 3 = true := by kernel_rfl
theorem Yc : Dc zA0 101 4 4 = true := by kernel_rfl
theorem WS : Dc zA0 101 5 5 = true := by kernel_rfl
theorem Pu : Dc zA0 136 0 0 = true := by kernel_rfl
theorem T6 : Dc zA0 136 1 3 = true := by kernel_rfl
theorem X8 : Dc zA0 136 2 4 = true := by kernel_rfl
theorem TB : Dc zA0 136 3 7 = true := by kernel_rfl
theorem Qn : Dc zA0 140 0 0 = true := by kernel_rfl
theorem SN : Dc zA0 25 0 0 = true := by kernel_rfl
theorem YQ : Dc zA0 25 1 1 = true := by kernel_rfl
theorem YL : Dc zA0 25 2 2 = true := by kernel_rfl
theorem Sb : Dc zA0 25 3 3 = true := by kernel_rfl
theorem Bb : Dc zA0 29 0 0 = true := by kernel_rfl
theorem FH : Dc zA0 29 1 1 = true := by kernel_rfl
theorem G4 : Dc zA0 29 2 2 = true := by kernel_rfl
theorem Cj : Dc zA0 29 3 3 = true := by kernel_rfl
theorem Dd : Dc zA0 49 0 0 = true := by kernel_rfl
theorem BK : Dc zA0 49 1 1 = true := by kernel_rfl
theorem CW : Dc zA0 49 2 2 = true := by kernel_rfl
theorem GH : Dc zA0 84 0 0 = true := by kernel_rfl
theorem Di : Dc zA0 84 1 1 = true := by kernel_rfl
theorem HV : Dc zA0 84 2 2 = true := by kernel_rfl
theorem JD : Dc zA0 84 3 3 = true := by kernel_rfl
theorem Ht : Dc zA0 84 4 4 = true := by kernel_rfl
theorem FI : Dc zA0 84 5 5 = true := by kernel_rfl
theorem GA : Dc zA0 94 0 0 = true := by kernel_rfl
theorem FG : Dc zA0 94 1 1 = true := by kernel_rfl
theorem HZ : Dc zA0 94 2 2 = true := by kernel_rfl
theorem fd : AA zA0 10 = true := by kernel_rfl
theorem dh : AA zA0 100 = true := by kernel_rfl
theorem af : AA zA0 101 = true := by kernel_rfl
theorem az : AA zA0 102 = true := by kernel_rfl
theorem Z1 : AA zA0 103 = true := by kernel_rfl
theorem cn : AA zA0 104 = true := by kernel_rfl
theorem X9 : AA zA0 105 = true := by kernel_rfl
theorem dP : AA zA0 106 = true := by kernel_rfl
theorem cE : AA zA0 107 = true := by kernel_rfl
theorem dq : AA zA0 108 = true := by kernel_rfl
theorem cA : AA zA0 109 = true := by kernel_rfl
theorem bZ : AA zA0 11 = true := by kernel_rfl
theorem ag : AA zA0 113 = true := by kernel_rfl
theorem Yf : AA zA0 114 = true := by kernel_rfl
theorem cU : AA zA0 117 = true := by kernel_rfl
theorem cm : AA zA0 118 = true := by kernel_rfl
theorem d8 : AA zA0 119 = true := by kernel_rfl
theorem aF : AA zA0 12 = true := by kernel_rfl
theorem VQ : AA zA0 120 = true := by kernel_rfl
theorem dI : AA zA0 121 = true := by kernel_rfl
theorem co : AA zA0 122 = true := by kernel_rfl
theorem cV : AA zA0 123 = true := by kernel_rfl
theorem dG : AA zA0 124 = true := by kernel_rfl
theorem dW : AA zA0 125 = true := by kernel_rfl
theorem dF : AA zA0 126 = true := by kernel_rfl
theorem Z0 : AA zA0 127 = true := by kernel_rfl
theorem ck : AA zA0 128 = true := by kernel_rfl
theorem Xw : AA zA0 129 = true := by kernel_rfl
theorem XE : AA zA0 13 = true := by kernel_rfl
theorem ZZ : AA zA0 130 = true := by kernel_rfl
theorem cX : AA zA0 131 = true := by kernel_rfl
theorem cb : AA zA0 132 = true := by kernel_rfl
theorem cK : AA zA0 133 = true := by kernel_rfl
theorem cN : AA zA0 134 = true := by kernel_rfl
theorem d9 : AA zA0 135 = true := by kernel_rfl
theorem cP : AA zA0 136 = true := by kernel_rfl
theorem bX : AA zA0 137 = true := by kernel_rfl
theorem ak : AA zA0 138 = true := by kernel_rfl
theorem ee : AA zA0 139 = true := by kernel_rfl
theorem en : AA zA0 15 = true := by kernel_rfl
theorem df : AA zA0 150 = true := by kernel_rfl
theorem dN : AA zA0 151 = true := by kernel_rfl
theorem cc : AA zA0 152 = true := by kernel_rfl
theorem cM : AA zA0 153 = true := by kernel_rfl
theorem cH : AA zA0 154 = true := by kernel_rfl
theorem dj : AA zA0 155 = true := by kernel_rfl
theorem Xd : AA zA0 156 = true := by kernel_rfl
theorem cd : AA zA0 157 = true := by kernel_rfl
theorem du : AA zA0 158 = true := by kernel_rfl
theorem ef : AA zA0 159 = true := by kernel_rfl
theorem dQ : AA zA0 160 = true := by kernel_rfl
theorem cT : AA zA0 161 = true := by kernel_rfl
theorem dB : AA zA0 162 = true := by kernel_rfl
theorem ce : AA zA0 163 = true := by kernel_rfl
theorem dU : AA zA0 164 = true := by kernel_rfl
theorem cr : AA zA0 165 = true := by kernel_rfl
theorem ct : AA zA0 166 = true := by kernel_rfl
theorem cO : AA zA0 167 = true := by kernel_rfl
theorem cR : AA zA0 17 = true := by kernel_rfl
theorem Z5 : AA zA0 173 = true := by kernel_rfl
theorem ai : AA zA0 174 = true := by kernel_rfl
theorem aa : AA zA0 175 = true := by kernel_rfl
theorem ap : AA zA0 176 = true := by kernel_rfl
theorem dA : AA zA0 177 = true := by kernel_rfl
theorem dX : AA zA0 178 = true := by kernel_rfl
theorem ez : AA zA0 18 = true := by kernel_rfl
theorem dn : AA zA0 180 = true := by kernel_rfl
theorem eM : AA zA0 25 = true := by kernel_rfl
theorem eH : AA zA0 27 = true := by kernel_rfl
theorem dw : AA zA0 30 = true := by kernel_rfl
theorem di : AA zA0 31 = true := by kernel_rfl
theorem fa : AA zA0 32 = true := by kernel_rfl
theorem ZH : AA zA0 33 = true := by kernel_rfl
theorem ep : AA zA0 35 = true := by kernel_rfl
theorem eJ : AA zA0 36 = true := by kernel_rfl
theorem bH : AA zA0 37 = true := by kernel_rfl
theorem Xo : AA zA0 38 = true := by kernel_rfl
theorem cW : AA zA0 39 = true := by kernel_rfl
theorem eS : AA zA0 40 = true := by kernel_rfl
theorem bW : AA zA0 42 = true := by kernel_rfl
theorem eL : AA zA0 43 = true := by kernel_rfl
theorem fr : AA zA0 44 = true := by kernel_rfl
theorem fi : AA zA0 45 = true := by kernel_rfl
theorem dt : AA zA0 46 = true := by kernel_rfl
theorem fg : AA zA0 47 = true := by kernel_rfl
theorem cS : AA zA0 48 = true := by kernel_rfl
theorem eo : AA zA0 50 = true := by kernel_rfl
theorem ff : AA zA0 51 = true := by kernel_rfl
theorem Y1 : AA zA0 52 = true := by kernel_rfl
theorem eO : AA zA0 53 = true := by kernel_rfl
theorem fj : AA zA0 55 = true := by kernel_rfl
theorem fo : AA zA0 56 = true := by kernel_rfl
theorem ca : AA zA0 57 = true := by kernel_rfl
theorem eD : AA zA0 58 = true := by kernel_rfl
theorem cg : AA zA0 59 = true := by kernel_rfl
theorem ZV : AA zA0 60 = true := by kernel_rfl
theorem dK : AA zA0 61 = true := by kernel_rfl
theorem bE : AA zA0 62 = true := by kernel_rfl
theorem eP : AA zA0 63 = true := by kernel_rfl
theorem eF : AA zA0 64 = true := by kernel_rfl
theorem ed : AA zA0 65 = true := by kernel_rfl
theorem RX : AA zA0 66 = true := by kernel_rfl
theorem da : AA zA0 67 = true := by kernel_rfl
theorem fm : AA zA0 68 = true := by kernel_rfl
theorem bY : AA zA0 69 = true := by kernel_rfl
theorem W9 : AA zA0 70 = true := by kernel_rfl
theorem e8 : AA zA0 71 = true := by kernel_rfl
theorem d6 : AA zA0 72 = true := by kernel_rfl
theorem eX : AA zA0 73 = true := by kernel_rfl
theorem dV : AA zA0 74 = true := by kernel_rfl
theorem e9 : AA zA0 75 = true := by kernel_rfl
theorem et : AA zA0 77 = true := by kernel_rfl
theorem fk : AA zA0 78 = true := by kernel_rfl
theorem eW : AA zA0 79 = true := by kernel_rfl
theorem cQ : AA zA0 80 = true := by kernel_rfl
theorem eI : AA zA0 81 = true := by kernel_rfl
theorem eC : AA zA0 82 = true := by kernel_rfl
theorem Yq : AA zA0 83 = true := by kernel_rfl
theorem dD : AA zA0 84 = true := by kernel_rfl
theorem cu : AA zA0 85 = true := by kernel_rfl
theorem cC : AA zA0 86 = true := by kernel_rfl
theorem dO : AA zA0 87 = true := by kernel_rfl
theorem dY : AA zA0 88 = true := by kernel_rfl
theorem aR : AA zA0 89 = true := by kernel_rfl
theorem eE : AA zA0 90 = true := by kernel_rfl
theorem cD : AA zA0 92 = true := by kernel_rfl
theorem fc : AA zA0 93 = true := by kernel_rfl
theorem ex : AA zA0 94 = true := by kernel_rfl
theorem fb : AA zA0 95 = true := by kernel_rfl
theorem Yo : AA zA0 96 = true := by kernel_rfl
theorem YT : AA zA0 97 = true := by kernel_rfl
theorem cq : AA zA0 98 = true := by kernel_rfl
theorem eY : AA zA0 99 = true := by kernel_rfl
theorem SY : QV zA0 145 .u32 = true := by kernel_rfl
theorem Z3 : QV zA0 147 .u64 = true := by kernel_rfl
theorem Xa : QV zA0 3 .i64 = true := by kernel_rfl
theorem fw : QV zA0 5 .u8 = true := by kernel_rfl
theorem W4 : QV zA0 71 .u64 = true := by kernel_rfl
theorem Vj : Tryz.prog.underlying 71 = some (.int .u64) := by kernel_rfl
theorem aA : Tryz.prog.underlying 9 = some .string := by kernel_rfl
theorem Sq : Tryz.prog.underlying 170 = some (.map 9 3) := by kernel_rfl
theorem OZ : Tryz.prog.underlying 67 = some (.map 71 4) := by kernel_rfl
theorem aq : I0 zA0 136 = some [(0, 3), (3, 1), (4, 3), (7, 1)] := by kernel_rfl
theorem al : I0 zA0 140 = some [(0, 3), (3, 1), (4, 3)] := by kernel_rfl
theorem RO : I0 zA0 149 = some [(0, 1), (1, 1), (2, 1)] := by kernel_rfl
theorem Td : I0 zA0 29 = some [(0, 1), (1, 1), (2, 1), (3, 1)] := by kernel_rfl
theorem JL : I0 zA0 49 = some [(0, 1), (1, 1), (2, 1)] := by kernel_rfl
theorem Zj : I0 zA0 84 = some [(0, 1), (1, 1), (2, 1), (3, 1), (4, 1), (5, 1)] := by kernel_rfl
theorem Zf : I0 zA0 94 = some [(0, 1), (1, 1), (2, 1)] := by kernel_rfl
theorem KH : sliceB zA0 125 140 = true := by kernel_rfl
theorem HE : sliceB zA0 131 136 = true := by kernel_rfl
theorem H3 : sliceB zA0 162 149 = true := by kernel_rfl
theorem Lw : sliceB zA0 22 5 = true := by kernel_rfl
theorem Yh : sliceB zA0 23 101 = true := by kernel_rfl
theorem Au : sliceB zA0 26 3 = true := by kernel_rfl
theorem DD : sliceB zA0 27 84 = true := by kernel_rfl
theorem G6 : sliceB zA0 38 26 = true := by kernel_rfl
theorem D4 : sliceB zA0 46 49 = true := by kernel_rfl
theorem DB : sliceB zA0 47 120 = true := by kernel_rfl
theorem FC : sliceB zA0 61 4 = true := by kernel_rfl
theorem EG : sliceB zA0 63 94 = true := by kernel_rfl
theorem GN : sliceB zA0 66 71 = true := by kernel_rfl
theorem EL : sliceB zA0 82 61 = true := by kernel_rfl
theorem cI : (Tryz.prog.underlying 120).isSome = true := by kernel_rfl
theorem Vn : (Tryz.prog.underlying 145).isSome = true := by kernel_rfl
theorem XA : (Tryz.prog.underlying 147).isSome = true := by kernel_rfl
theorem dm : (Tryz.prog.underlying 3).isSome = true := by kernel_rfl
theorem bI : (Tryz.prog.underlying 5).isSome = true := by kernel_rfl
theorem Yw : (Tryz.prog.underlying 71).isSome = true := by kernel_rfl
theorem Wd : Ry zA0 9 = true := by kernel_rfl
theorem X1 : H7 zA0 101 6 = true := by kernel_rfl
theorem EA : H7 zA0 120 1 = true := by kernel_rfl
theorem Lx : H7 zA0 136 8 = true := by kernel_rfl
theorem RK : H7 zA0 140 7 = true := by kernel_rfl
theorem Ja : H7 zA0 149 3 = true := by kernel_rfl
theorem cB : H7 zA0 25 4 = true := by kernel_rfl
theorem Ig : H7 zA0 26 1 = true := by kernel_rfl
theorem bc : H7 zA0 27 1 = true := by kernel_rfl
theorem BU : H7 zA0 29 4 = true := by kernel_rfl
theorem CK : H7 zA0 3 1 = true := by kernel_rfl
theorem PB : H7 zA0 4 1 = true := by kernel_rfl
theorem fq : H7 zA0 47 1 = true := by kernel_rfl
theorem AW : H7 zA0 49 3 = true := by kernel_rfl
theorem bi : H7 zA0 5 1 = true := by kernel_rfl
theorem Ka : H7 zA0 61 1 = true := by kernel_rfl
theorem fh : H7 zA0 66 1 = true := by kernel_rfl
theorem fe : H7 zA0 67 1 = true := by kernel_rfl
theorem MD : H7 zA0 71 1 = true := by kernel_rfl
theorem ZQ : H7 zA0 82 1 = true := by kernel_rfl
theorem Du : H7 zA0 84 6 = true := by kernel_rfl
theorem EE : H7 zA0 94 3 = true := by kernel_rfl
theorem d1 : D5 zA0 101 = some (.agg #[.int .u8 0, .int .u8 0, .int .u8 0, .bool false, .int .u16 0, .int .u16 0]) := by kernel_rfl
theorem NB : D5 zA0 120 = some (.int .u8 0) := by kernel_rfl
theorem TU : D5 zA0 136 = some (.agg #[.slice none 0 0, .slice none 0 0, .slice none 0 0, .int .i64 0, .int .i64 0, .int .i64 0, .int .i64 0, .slice none 0 0]) := by kernel_rfl
theorem S7 : D5 zA0 140 = some (.agg #[.slice none 0 0, .slice none 0 0, .slice none 0 0, .int .i64 0, .int .i64 0, .int .i64 0, .int .i64 0]) := by kernel_rfl
theorem Jr : D5 zA0 149 = some (.agg #[.int .i64 0, .int .i64 0, .int .i64 0]) := by kernel_rfl
theorem Wh : D5 zA0 26 = some (.slice none 0 0) := by kernel_rfl
theorem Kj : D5 zA0 29 = some (.agg #[.slice none 0 0, .slice none 0 0, .slice none 0 0, .slice none 0 0]) := by kernel_rfl
theorem I6 : D5 zA0 3 = some (.int .i64 0) := by kernel_rfl
theorem Ut : D5 zA0 4 = some (.bool false) := by kernel_rfl
theorem DG : D5 zA0 49 = some (.agg #[.slice none 0 0, .slice none 0 0, .slice none 0 0]) := by kernel_rfl
theorem dT : D5 zA0 5 = some (.int .u8 0) := by kernel_rfl
theorem UV : D5 zA0 61 = some (.slice none 0 0) := by kernel_rfl
theorem eQ : D5 zA0 66 = some (.slice none 0 0) := by kernel_rfl
theorem eV : D5 zA0 67 = some (.map none) := by kernel_rfl
theorem Tx : D5 zA0 71 = some (.int .u64 0) := by kernel_rfl
theorem Jl : D5 zA0 84 = some (.agg #[.int .i64 0, .int .i64 0, .int .i64 0, .bool false, .slice none 0 0, .slice none 0 0]) := by kernel_rfl
theorem Lq : D5 zA0 94 = some (.agg #[.int .i64 0, .int .i64 0, .int .i64 0]) := by kernel_rfl
set_option maxRecDepth 10000
theorem J7 (N : Nat) (p0 : List Int) (p1 : Int) (r : Int) (h : Ex N p0 p1 = some r) : An zA0 65 [pD (.sl (p0.map DL)), iD p1] [] (iD r) := by
 unfold Ex at h
 refine cw (n := 14) (rs := [.tmp 4]) Tryz.func65 fun w0 S0 => ?_
 refine wq rfl (qa rfl (Ac (wp rfl (qw 2 rfl (AI Lw rfl (AY rfl (Ac ?_)))))))
 refine Ba h (fun h => ?_) fun h => ?_
 ·refine wq rfl (qw 2 rfl ?_)
  refine BJ h fun v2 a2 b2 h => qi Lw bi a2 (Af b2) rfl (qk cL rfl (Jj bI Xa rfl (qe rfl ?_)))
  obtain rfl := sj h
  refine Ae (sm [] [(4, iD ((wI .i64 v2)))] [] rfl rfl) (Ar ?_)
  exact ⟨⟨[_], tm, rfl⟩, tv⟩
 ·refine Ai (wq rfl (qe rfl ?_))
  obtain rfl := sj h
  refine Ae (sm [] [(4, iD 0)] [] rfl rfl) (Ar ?_)
  exact ⟨⟨[_], tm, rfl⟩, tv⟩
theorem CD (N : Nat) (p0 : Am) (r : Bool) (h : Bc N p0 = some r) : An zA0 66 [.e (.agg (Bg p0))] [] (bD r) := by
 unfold Bc at h
 refine cw (n := 11) (rs := [.tmp 2]) Tryz.func66 fun w0 S0 => ?_
 refine wq rfl (qb rfl (qe rfl ?_))
 refine AS h (fun v1 => mk [(2, bD v1)] []) (fun j1 h => ?_) (fun v1 h => ?_)
 ·refine Ag Av rfl (qf GH rfl (ql B1 rfl (Cf rfl (qm rfl ?_))))
  refine En 6 h rfl (fun h => ?_) fun h => ?_
  ·refine qw 3 rfl (qp rfl (qe rfl ?_))
   exact sn [] h
  ·refine qf GH rfl (ql B1 rfl (Cf rfl (qp rfl (qe rfl ?_))))
   exact sn [] h
 ·obtain rfl := sj h
  refine Ae (sm [] [(2, bD v1)] [] rfl rfl) (Ar ?_)
  exact ⟨⟨[_], tm, rfl⟩, tv⟩
theorem Kc (N : Nat) (p0 : Int) (p1 : Int) (p2 : Int) (p3 : Bool) (r : (List (List Bool))) (h : Ez N p0 p1 p2 p3 = some r) : An zA0 67 [iD p0, iD p1, pD (.val (.int .u16 p2)), bD p3] [(1, r.map (FO eB))] (oD (.own 0)) := by
 unfold Ez at h
 refine cw (n := 47) (rs := [.tmp 8]) Tryz.func67 fun w0 S0 => ?_
 refine wq rfl (qa rfl (Ac (wq rfl (qa rfl (Ac (wp rfl (qe rfl ?_)))))))
 refine AC (L := CG N p0 p1 p2 p3) h (fun v1 => mk [(0, iD p0), (1, iD p1), (2, pD (.val (.int .u16 p2))), (3, bD p3), (9, oD (.own 2001)), (10, iD v1.2)] [(2001, .vec 1 (v1.1.map (FO eB)))]) (fun v2 => mk [(9, oD (.own 2002))] [(2002, .vec 1 (v2.map (FO eB)))]) (fun _ _ => rfl) ((A9 9 2010 1 rfl rfl rfl).trans (sm [(2001, 2010)] _ _ rfl rfl)) (fun j1 n1 v1 h => ?_) (fun v2 s h hs => ?_)
 ·unfold CG at h
  refine wp rfl (qw 2 rfl (AY rfl (Ac ?_)))
  refine Ba h (fun h => ?_) fun h => ?_
  ·refine Ai (AL (AJ (wq rfl (qa rfl (Ac (wp rfl (qe rfl ?_)))))))
   refine AC (L := Cz N p1 p2 p3 v1) h (fun v4 => mk [(0, iD p0), (1, iD p1), (2, pD (.val (.int .u16 p2))), (3, bD p3), (9, oD (.own 2003)), (10, iD v1.2), (11, oD (.own 2004)), (12, iD v4.2)] [(2003, .vec 1 (v1.1.map (FO eB))), (2004, .vec 1 (v4.1.map eB))]) (fun v5 => mk [(0, iD p0), (1, iD p1), (2, pD (.val (.int .u16 p2))), (3, bD p3), (9, oD (.own 2005)), (10, iD v1.2), (11, oD (.own 2006))] [(2005, .vec 1 (v1.1.map (FO eB))), (2006, .vec 1 (v5.map eB))]) (fun _ _ => rfl) ((A9 11 2009 1 rfl rfl rfl).trans (sm [(2003, 2001), (2004, 2009)] _ _ rfl rfl)) (fun j4 n4 v4 h => ?_) (fun v5 s h hs => ?_)
   ·unfold Cz at h
    refine wp rfl (qw 2 rfl (AY rfl (Ac ?_)))
    refine Ba h (fun h => ?_) fun h => ?_
    ·refine Ai ?_
     refine AS h (fun v7 => mk [(0, iD p0), (1, iD p1), (2, pD (.val (.int .u16 p2))), (3, bD p3), (9, oD (.own 2007)), (10, iD v1.2), (11, oD (.own 2008)), (12, iD v4.2)] [(2007, .vec 1 (v1.1.map (FO eB))), (2008, .vec 1 (v7.map eB))]) (fun j7 h => ?_) (fun v7 h => ?_)
     ·refine AJ (Ag Av rfl (qw 3 rfl ?_))
      refine En 25 h rfl (fun h => ?_) fun h => ?_
      ·refine qw 2 rfl (Cf rfl (qp rfl (qm rfl ?_)))
       refine En 30 h rfl (fun h => ?_) fun h => ?_
       ·refine qw 8 rfl (qp rfl (Dg FC PB Ut rfl ?_))
        refine FD h fun c10 h => Cu (f := eB) FC FC PB Xg Ut c10 rfl (qe rfl ?_)
        exact sn [(2007, 2003), (2008, 41)] h
       ·refine qw 2 rfl (NQ rfl (qm rfl (A0 rfl ?_)))
        refine FD h fun c11 h => GR rfl c11 (MY rfl (by decide) (Cf rfl (qp rfl (Dg FC PB Ut rfl ?_))))
        refine FD h fun c12 h => Cu (f := eB) FC FC PB Xg Ut c12 rfl (qe rfl ?_)
        exact sn [(2007, 2003), (2008, 41)] h
      ·refine qw 3 rfl (qp rfl (qw 3 rfl (NQ rfl (qm rfl (A0 rfl ?_)))))
       refine FD h fun c13 h => GR rfl c13 (MY rfl (by decide) (Cf rfl (qp rfl (Dg FC PB Ut rfl ?_))))
       refine FD h fun c14 h => Cu (f := eB) FC FC PB Xg Ut c14 rfl (qe rfl ?_)
       exact sn [(2007, 2003), (2008, 41)] h
     ·refine Ag Av rfl (qm rfl (A0 rfl (qe rfl ?_)))
      exact sn [(2003, 2007), (2004, 2008)] h
    ·refine AU ?_
     exact sn [(2005, 2003), (2006, 2004)] h
   ·refine Ae hs (Ag Av rfl (qw 2 rfl (CE (A4 2006 _ _ rfl rfl) (Dg EL Ka UV rfl ?_))))
    refine FD h fun c15 h => Cu (f := (FO eB)) EL EL Ka X3 UV c15 rfl (qa rfl (Ac (Ag Av rfl (qm rfl (A0 rfl (qe rfl ?_))))))
    exact sn [(2001, 45)] h
  ·refine AU ?_
   exact sn [(2002, 2001)] h
 ·refine Ae hs (wq rfl (qm rfl (qe rfl ?_)))
  obtain rfl := sj h
  refine Ae (sm [(1000, 2002)] [(8, oD (.own 1000))] [(1000, .vec 1 (v2.map (FO eB)))] rfl rfl) (Ar ?_)
  exact ⟨⟨[_], tm, rfl⟩, ⟨rfl, tv⟩⟩
theorem Ov (N : Nat) (p0 : BN) (r : Aa × Bool) (h : FT N p0 = some r) : An zA0 35 [.e (.agg (C6 p0))] [(1, r.1.fA.map Ak), (1, r.1.fH.map Ak), (1, r.1.fL.map Ak), (6, r.1.fC.map AO)] (.tup [.agg [.own 0, .own 1, .own 2, .own 3], .one (.pure (.val (.bool r.2)))]) := by
 unfold FT at h
 refine cw (n := 152) (rs := [.cell 2 29, .tmp 3]) Tryz.func35 fun w0 S0 => ?_
 refine wq rfl (qb rfl (qz Kj rfl (qa rfl (Ac (AL ?_)))))
 refine AS h (fun v1 => mk [(1, oD (.ptr 1 0)), (2, oD (.ptr 2 0)), (19, bD v1)] [(1, .box (C6 p0)), (2, .box [.pure (.nil0), .pure (.nil0), .pure (.nil0), .pure (.nil0)])]) (fun j1 h => ?_) (fun v1 h => ?_)
 ·refine Ag Av rfl (qf SN rfl (ql Yv rfl (AI Lw rfl (Gg rfl (qm rfl ?_)))))
  refine En 14 h rfl (fun h => ?_) fun h => ?_
  ·refine qw 4 rfl (qp rfl (Ac ?_))
   exact sn [] h
  ·refine qf Sb rfl (ql bu rfl (AI Yh rfl (Gg rfl (qp rfl (Ac ?_)))))
   exact sn [] h
 ·refine Ba h (fun h => ?_) fun h => ?_
  ·refine wq rfl (Bk Kj Td rfl (qs BU rfl (qe rfl ?_)))
   obtain rfl := sj h
   refine Ae ((Aq 2 0 2001 1 _ rfl rfl rfl rfl).trans ((Aq 2 1 2002 1 _ rfl rfl rfl rfl).trans ((Aq 2 2 2003 1 _ rfl rfl rfl rfl).trans ((Aq 2 3 2004 6 _ rfl rfl rfl rfl).trans (sm [(1000, 2001), (1001, 2002), (1002, 2003), (1003, 2004)] [(2, oD (.ptr 2 0)), (3, bD false)] [(2, .box [.own 1000, .own 1001, .own 1002, .own 1003]), (1000, .vec 1 ((([] : List Int)).map Ak)), (1001, .vec 1 ((([] : List Int)).map Ak)), (1002, .vec 1 ((([] : List Int)).map Ak)), (1003, .vec 6 ((([] : List Am)).map AO))] rfl rfl))))) (Ar ?_)
   exact ⟨⟨[_, _], ⟨.cellN _ _ _ _ _ _ _ rfl rfl CO BU rfl rfl (JG rfl), tm⟩, rfl⟩, ⟨rfl, rfl, rfl, rfl, tv⟩⟩
  ·refine Ai (wq rfl (qz Kj rfl (Ac (wp rfl (qe rfl ?_)))))
   refine AC (L := C7 N p0) h (fun v4 => mk [(1, oD (.ptr 1 0)), (2, oD (.ptr 2 0)), (4, oD (.ptr 4 0)), (5, iD v4.2.2.2)] [(1, .box (C6 p0)), (2, .box [.pure (.nil0), .pure (.nil0), .pure (.nil0), .pure (.nil0)]), (4, .box [.own 2005, .own 2006, .own 2007, .pure (.nil0)]), (2005, .vec 1 (v4.1.map Ak)), (2006, .vec 1 (v4.2.1.map Ak)), (2007, .vec 1 (v4.2.2.1.map Ak))]) (fun v5 => mk [(1, oD (.ptr 1 0)), (2, oD (.ptr 2 0)), (4, oD (.ptr 4 0))] [(1, .box (C6 p0)), (2, .box [.pure (.nil0), .pure (.nil0), .pure (.nil0), .pure (.nil0)]), (4, .box [.own 2008, .own 2009, .own 2010, .pure (.nil0)]), (2008, .vec 1 (v5.1.map Ak)), (2009, .vec 1 (v5.2.1.map Ak)), (2010, .vec 1 (v5.2.2.map Ak))]) (fun _ _ => rfl) ((Aq 4 0 2011 1 _ rfl rfl rfl rfl).trans ((Aq 4 1 2012 1 _ rfl rfl rfl rfl).trans ((Aq 4 2 2013 1 _ rfl rfl rfl rfl).trans (sm [(2005, 2011), (2006, 2012), (2007, 2013)] _ _ rfl rfl)))) (fun j4 n4 v4 h => ?_) (fun v5 s h hs => ?_)
   ·unfold C7 at h
    refine wp rfl (qm rfl (qf SN rfl (ql Yv rfl (AI Lw rfl (AY rfl (Ac ?_))))))
    refine Ba h (fun h => ?_) fun h => ?_
    ·refine Ai (AL (AJ (wq rfl (qf SN rfl (ql Yv rfl (qm rfl ?_))))))
     refine BJ h fun v7 a7 b7 h => qi Lw bi a7 (Af b7) rfl (qk cL rfl (MY rfl (by decide) (Jj bI Xa rfl (A0 rfl (qa rfl (Ac (wq rfl (qf Bb rfl (ql A7 rfl (qm rfl (Dg Au CK I6 rfl ?_)))))))))))
     refine FD h fun c8 h => Cu (f := Ak) Au Au CK Ki I6 c8 rfl (qf Bb rfl (qs Ig rfl (Ac (wq rfl (qf FH rfl (ql A7 rfl (qf YQ rfl (ql Yv rfl (qm rfl ?_)))))))))
     refine BD h fun v9 a9 h => Aw [] (J7 N p0.fH v4.2.2.2 v9 a9) ed rfl (qm rfl ?_)
     refine FD h fun c10 h => MY rfl c10 (Dg Au CK I6 rfl ?_)
     refine FD h fun c11 h => Cu (f := Ak) Au Au CK Ki I6 c11 rfl (qf FH rfl (qs Ig rfl (AM (by kernel_rfl) (Ag Av rfl (qf G4 rfl (ql A7 rfl (qf YL rfl (ql Yv rfl (qm rfl ?_)))))))))
     refine BD h fun v12 a12 h => Aw [] (J7 N p0.fL v4.2.2.2 v12 a12) ed rfl (qm rfl ?_)
     refine FD h fun c13 h => MY rfl c13 (Dg Au CK I6 rfl ?_)
     refine FD h fun c14 h => Cu (f := Ak) Au Au CK Ki I6 c14 rfl (qf G4 rfl (qs Ig rfl (AM (by kernel_rfl) (Ag Av rfl (qm rfl (A0 rfl (qe rfl ?_)))))))
     exact sn [(2005, 40), (2006, 51), (2007, 62)] h
    ·refine AU ?_
     exact sn [(2008, 2005), (2009, 2006), (2010, 2007)] h
   ·refine Ae hs (wp rfl (qe rfl ?_))
    refine AC (L := BH N p0 v5) h (fun v15 => mk [(1, oD (.ptr 1 0)), (2, oD (.ptr 2 0)), (4, oD (.ptr 4 0)), (7, iD v15.2)] [(1, .box (C6 p0)), (2, .box [.pure (.nil0), .pure (.nil0), .pure (.nil0), .pure (.nil0)]), (4, .box [.own 2014, .own 2015, .own 2016, .own 2017]), (2014, .vec 1 (v5.1.map Ak)), (2015, .vec 1 (v5.2.1.map Ak)), (2016, .vec 1 (v5.2.2.map Ak)), (2017, .vec 6 (v15.1.map AO))]) (fun v16 => mk [(2, oD (.ptr 2 0)), (4, oD (.ptr 4 0))] [(2, .box [.pure (.nil0), .pure (.nil0), .pure (.nil0), .pure (.nil0)]), (4, .box [.own 2018, .own 2019, .own 2020, .own 2021]), (2018, .vec 1 (v5.1.map Ak)), (2019, .vec 1 (v5.2.1.map Ak)), (2020, .vec 1 (v5.2.2.map Ak)), (2021, .vec 6 (v16.map AO))]) (fun _ _ => rfl) ((Aq 4 3 2039 6 _ rfl rfl rfl rfl).trans (sm [(2014, 2008), (2015, 2009), (2016, 2010), (2017, 2039)] _ _ rfl rfl)) (fun j15 n15 v15 h => ?_) (fun v16 s h hs => ?_)
    ·unfold BH at h
     refine AL ?_
     refine AS h (fun v17 => mk [(1, oD (.ptr 1 0)), (2, oD (.ptr 2 0)), (4, oD (.ptr 4 0)), (7, iD v15.2), (74, bD v17)] [(1, .box (C6 p0)), (2, .box [.pure (.nil0), .pure (.nil0), .pure (.nil0), .pure (.nil0)]), (4, .box [.own 2022, .own 2023, .own 2024, .own 2025]), (2022, .vec 1 (v5.1.map Ak)), (2023, .vec 1 (v5.2.1.map Ak)), (2024, .vec 1 (v5.2.2.map Ak)), (2025, .vec 6 (v15.1.map AO))]) (fun j17 h => ?_) (fun v17 h => ?_)
     ·refine Ag Av rfl (qm rfl (qf Sb rfl (ql bu rfl (AI Yh rfl (AY rfl (qm rfl ?_))))))
      refine En 69 h rfl (fun h => ?_) fun h => ?_
      ·refine qf Bb rfl (ql A7 rfl (Et Au rfl (Gg rfl (qp rfl (Ac ?_)))))
       exact sn [(2022, 2014), (2023, 2015), (2024, 2016), (2025, 2017)] h
      ·refine qw 4 rfl (qp rfl (Ac ?_))
       exact sn [(2022, 2014), (2023, 2015), (2024, 2016), (2025, 2017)] h
     ·refine Ba h (fun h => ?_) fun h => ?_
      ·refine Ai (AL (AJ (wq rfl (qf Sb rfl (ql bu rfl (qm rfl ?_))))))
       refine BJ h fun v20 a20 b20 h => qi Yh X1 a20 (Af b20) rfl (qK dH X1 rfl (qz d1 rfl (qs X1 rfl (Ac (wq rfl (qf Xz rfl (ql cL rfl (MY rfl (by decide) (Jj bI Xa rfl (A0 rfl (qf Yk rfl (ql cL rfl (Jj bI Xa rfl (qf Bb rfl (ql A7 rfl (Et Au rfl ?_))))))))))))))))
       refine FD h fun c21 h => MY rfl c21 (qf Xe rfl (ql cL rfl (Jj bI Xa rfl (qf Bb rfl (ql A7 rfl (Et Au rfl ?_))))))
       refine FD h fun c22 h => MY rfl c22 (Bk Jl Zj rfl (qz Jl rfl (qs Du rfl (AM (by kernel_rfl) ?_))))
       refine AS h (fun v23 => mk [(1, oD (.ptr 1 0)), (2, oD (.ptr 2 0)), (4, oD (.ptr 4 0)), (7, iD v15.2), (8, oD (.ptr 8 0)), (9, oD (.ptr 9 0))] [(1, .box (C6 p0)), (2, .box [.pure (.nil0), .pure (.nil0), .pure (.nil0), .pure (.nil0)]), (4, .box [.own 2026, .own 2027, .own 2028, .own 2029]), (8, .box (Of v20)), (9, .box [iC ((wI .i64 (1 + (wI .i64 ((zB8 v20.fG 4)))))), iC ((zB8 ((wI .i64 v20.fF)) ((v5.1.length : Int)))), iC ((zB8 ((wI .i64 v20.fJ)) ((v5.1.length : Int)))), .pure (.val (.bool v23)), .pure (.nil0), .pure (.nil0)]), (2026, .vec 1 (v5.1.map Ak)), (2027, .vec 1 (v5.2.1.map Ak)), (2028, .vec 1 (v5.2.2.map Ak)), (2029, .vec 6 (v15.1.map AO))]) (fun j23 h => ?_) (fun v23 h => ?_)
       ·refine Ag Av rfl (qf XM rfl (ql Uq rfl (qm rfl ?_)))
        refine En 104 h rfl (fun h => ?_) fun h => ?_
        ·refine qL Ha Du rfl ?_
         refine BD h fun v25 a25 h => Aw [] (CD N ((Am.mk ((wI .i64 (1 + (wI .i64 ((zB8 v20.fG 4)))))) ((zB8 ((wI .i64 v20.fF)) ((v5.1.length : Int)))) ((zB8 ((wI .i64 v20.fJ)) ((v5.1.length : Int)))) false (([] : List (List Bool))) (([] : List (List Bool))))) v25 a25) RX rfl (Cp rfl (qp rfl (qf JD rfl (qs PB rfl (Ac ?_)))))
         exact sn [(2026, 2022), (2027, 2023), (2028, 2024), (2029, 2025)] h
        ·refine qw 3 rfl (qp rfl (qf JD rfl (qs PB rfl (Ac ?_))))
         exact sn [(2026, 2022), (2027, 2023), (2028, 2024), (2029, 2025)] h
       ·refine wq rfl (qf Bb rfl (ql A7 rfl (qf Di rfl (ql B1 rfl ?_))))
        refine BJ h fun v26 a26 b26 h => qI Au CK a26 (Af b26) rfl (qj B1 (Af b26) rfl (qf Bb rfl (ql A7 rfl (qf HV rfl (ql B1 rfl ?_)))))
        refine BJ h fun v27 a27 b27 h => qI Au CK a27 (Af b27) rfl (qj B1 (Af b27) rfl (qf Yc rfl (ql d7 rfl ?_)))
        refine BD h fun v28 a28 h => Aw [2030] (Kc N v26 v27 v20.fU false v28 a28) da rfl (qf Ht rfl (qs ZQ rfl (AM (by kernel_rfl) ?_)))
        refine AS h (fun v29 => mk [(1, oD (.ptr 1 0)), (2, oD (.ptr 2 0)), (4, oD (.ptr 4 0)), (7, iD v15.2), (9, oD (.ptr 9 0))] [(1, .box (C6 p0)), (2, .box [.pure (.nil0), .pure (.nil0), .pure (.nil0), .pure (.nil0)]), (4, .box [.own 2031, .own 2032, .own 2033, .own 2034]), (9, .box [iC ((wI .i64 (1 + (wI .i64 ((zB8 v20.fG 4)))))), iC ((zB8 ((wI .i64 v20.fF)) ((v5.1.length : Int)))), iC ((zB8 ((wI .i64 v20.fJ)) ((v5.1.length : Int)))), .pure (.val (.bool v23)), .own 2035, .own 2036]), (2031, .vec 1 (v5.1.map Ak)), (2032, .vec 1 (v5.2.1.map Ak)), (2033, .vec 1 (v5.2.2.map Ak)), (2034, .vec 6 (v15.1.map AO)), (2035, .vec 1 (v28.map (FO eB))), (2036, .vec 1 (v29.map (FO eB)))]) (fun j29 h => ?_) (fun v29 h => ?_)
        ·refine wq rfl (qf GH rfl (ql B1 rfl (Cf rfl (Ac ?_))))
         refine Ba h (fun h => ?_) fun h => ?_
         ·refine Ag Av rfl (qf Bb rfl (ql A7 rfl (qf Di rfl (ql B1 rfl ?_))))
          refine BJ h fun v31 a31 b31 h => qI Au CK a31 (Af b31) rfl (qj B1 (Af b31) rfl (qf Bb rfl (ql A7 rfl (qf Di rfl (ql B1 rfl ?_)))))
          refine BJ h fun v32 a32 b32 h => qI Au CK a32 (Af b32) rfl (qj B1 (Af b32) rfl (qf WS rfl (ql d7 rfl ?_)))
          refine BD h fun v33 a33 h => Aw [2037] (Kc N v31 v32 v20.fV true v33 a33) da rfl (qf FI rfl (qs ZQ rfl (AM (by kernel_rfl) ?_)))
          exact sn [(2031, 2026), (2032, 2027), (2033, 2028), (2034, 2029), (2035, 2030), (2036, 2037)] h
         ·refine Ai ?_
          exact aB _ h ((Aq 9 5 2038 1 _ rfl rfl rfl rfl).trans (sm [(2031, 2026), (2032, 2027), (2033, 2028), (2034, 2029), (2035, 2030), (2036, 2038)] _ _ rfl rfl))
        ·refine Ag Av rfl (qf Cj rfl (ql Hp rfl (qL Ha Du rfl (CE (A4 2035 _ _ rfl rfl) (CE (A4 2036 _ _ rfl rfl) (Dg DD Du Jl rfl ?_))))))
         refine FD h fun c34 h => Cu (f := AO) DD DD Du WW Jl c34 rfl (qf Cj rfl (qs bc rfl (Ac (Ag Av rfl (qm rfl (A0 rfl (qe rfl ?_)))))))
         exact sn [(2014, 2031), (2015, 2032), (2016, 2033), (2017, 149)] h
      ·refine AU ?_
       exact sn [(2018, 2022), (2019, 2023), (2020, 2024), (2021, 2025)] h
    ·refine Ae hs (wq rfl (qL CO BU rfl (qs BU rfl (qe rfl ?_))))
     obtain rfl := sj h
     refine Ae (sm [(1000, 2018), (1001, 2019), (1002, 2020), (1003, 2021)] [(2, oD (.ptr 2 0)), (3, bD true)] [(2, .box [.own 1000, .own 1001, .own 1002, .own 1003]), (1000, .vec 1 (v5.1.map Ak)), (1001, .vec 1 (v5.2.1.map Ak)), (1002, .vec 1 (v5.2.2.map Ak)), (1003, .vec 6 (v16.map AO))] rfl rfl) (Ar ?_)
     exact ⟨⟨[_, _], ⟨.cellN _ _ _ _ _ _ _ rfl rfl CO BU rfl rfl (JG rfl), tm⟩, rfl⟩, ⟨rfl, rfl, rfl, rfl, tv⟩⟩
theorem I4 (N : Nat) (p0 : List (List Bool)) (p1 : Int) (p2 : Int) (r : Bool) (h : DY N p0 p1 p2 = some r) : An zA0 98 [pD (.sl (p0.map (FO eB))), iD p1, iD p2] [] (bD r) := by
 unfold DY at h
 refine cw (n := 24) (rs := [.tmp 6]) Tryz.func98 fun w0 S0 => ?_
 refine wq rfl (qa rfl (Ac (wp rfl (qm rfl (AI EL rfl (qm rfl (BA rfl (Ac ?_))))))))
 refine Ba h (fun h => ?_) fun h => ?_
 ·refine wq rfl (qe rfl ?_)
  obtain rfl := sj h
  refine Ae (sm [] [(6, bD false)] [] rfl rfl) (Ar ?_)
  exact ⟨⟨[_], tm, rfl⟩, tv⟩
 ·refine Ai (wp rfl (qe rfl ?_))
  refine AC (L := CL N p0 p1 p2) h (fun v2 => mk [(0, pD (.sl (p0.map (FO eB)))), (1, iD p1), (2, iD p2), (7, iD v2)] []) (fun v3 => mk [] []) (fun _ _ => rfl) (sm [] _ _ rfl rfl) (fun j2 n2 v2 h => ?_) (fun v3 s h hs => ?_)
  ·unfold CL at h
   refine wp rfl (qw 2 rfl (AY rfl (Ac ?_)))
   refine Ba h (fun h => ?_) fun h => ?_
   ·refine Ai (AL (AJ (wq rfl (qw 2 rfl ?_))))
    refine BJ h fun v5 a5 b5 h => qi EL Ka a5 (Af b5) rfl (qk O9 rfl (AI FC rfl (qm rfl (BA rfl (Ac ?_)))))
    refine Ba h (fun h => ?_) fun h => ?_
    ·refine wq rfl (qe rfl ?_)
     obtain rfl := sj h
     refine Ae (sm [] [(6, bD false)] [] rfl rfl) (Ar ?_)
     exact ⟨⟨[_], tm, rfl⟩, tv⟩
    ·refine Ai (Ag Av rfl (qm rfl (A0 rfl (qe rfl ?_))))
     exact sn [] h
   ·refine AU ?_
    exact sn [] h
  ·refine Ae hs (wq rfl (qe rfl ?_))
   obtain rfl := sj h
   refine Ae (sm [] [(6, bD true)] [] rfl rfl) (Ar ?_)
   exact ⟨⟨[_], tm, rfl⟩, tv⟩
theorem MO (N : Nat) (p0 : Aa) (p1 : Am) (r : Int) (h : E8 N p0 p1 = some r) : An zA0 64 [.e (.agg (Ah p0)), .e (.agg (Bg p1))] [] (iD r) := by
 unfold E8 at h
 refine cw (n := 101) (rs := [.tmp 4]) Tryz.func64 fun w0 S0 => ?_
 refine wq rfl (qb rfl (qb rfl (qa rfl (Ac (AL ?_)))))
 refine AS h (fun v1 => mk [(2, oD (.ptr 2 0)), (3, oD (.ptr 3 0)), (22, bD v1)] [(2, .box (Ah p0)), (3, .box (Bg p1))]) (fun j1 h => ?_) (fun v1 h => ?_)
 ·refine Ag Av rfl (qf GH rfl (ql B1 rfl (AY rfl (qm rfl ?_))))
  refine En 10 h rfl (fun h => ?_) fun h => ?_
  ·refine qw 3 rfl (qp rfl (qw 4 rfl (qu rfl (qu rfl (qn rfl (qp rfl (Ac ?_)))))))
   exact sn [] h
  ·refine qf GH rfl (ql B1 rfl (Gg rfl (qp rfl (qm rfl ?_))))
   refine En 15 h rfl (fun h => ?_) fun h => ?_
   ·refine qw 3 rfl (qu rfl (qu rfl (qn rfl (qp rfl (Ac ?_)))))
    exact sn [] h
   ·refine qf JD rfl (ql Uq rfl (qm rfl ?_))
    refine En 18 h rfl (fun h => ?_) fun h => ?_
    ·refine qL Ha Du rfl ?_
     refine BD h fun v5 a5 h => Aw [] (CD N p1 v5 a5) RX rfl (qp rfl (qp rfl (Ac ?_)))
     exact sn [] h
    ·refine qw 2 rfl (qp rfl (qp rfl (Ac ?_)))
     exact sn [] h
 ·refine Ba h (fun h => ?_) fun h => ?_
  ·refine wq rfl (qe rfl ?_)
   obtain rfl := sj h
   refine Ae (sm [] [(4, iD 1)] [] rfl rfl) (Ar ?_)
   exact ⟨⟨[_], tm, rfl⟩, tv⟩
  ·refine Ai (wq rfl (qf Bb rfl (ql A7 rfl (AI Au rfl (qa rfl (Ac (AL ?_)))))))
   refine AS h (fun v7 => mk [(2, oD (.ptr 2 0)), (3, oD (.ptr 3 0)), (45, bD v7)] [(2, .box (Ah p0)), (3, .box (Bg p1))]) (fun j7 h => ?_) (fun v7 h => ?_)
   ·refine Ag Av rfl (qf Di rfl (ql B1 rfl (AY rfl (qm rfl ?_))))
    refine En 29 h rfl (fun h => ?_) fun h => ?_
    ·refine qw 4 rfl (qp rfl (qw 4 rfl (qp rfl (qw 5 rfl (qp rfl (Ac ?_))))))
     exact sn [] h
    ·refine qf Di rfl (ql B1 rfl (qm rfl (EF rfl (qp rfl (qm rfl ?_)))))
     refine En 35 h rfl (fun h => ?_) fun h => ?_
     ·refine qw 3 rfl (qp rfl (qw 5 rfl (qp rfl (Ac ?_))))
      exact sn [] h
     ·refine qf HV rfl (ql B1 rfl (AY rfl (qp rfl (qm rfl ?_))))
      refine En 40 h rfl (fun h => ?_) fun h => ?_
      ·refine qw 4 rfl (qp rfl (Ac ?_))
       exact sn [] h
      ·refine qf HV rfl (ql B1 rfl (qm rfl (EF rfl (qp rfl (Ac ?_)))))
       exact sn [] h
   ·refine Ba h (fun h => ?_) fun h => ?_
    ·refine wq rfl (qe rfl ?_)
     obtain rfl := sj h
     refine Ae (sm [] [(4, iD 4)] [] rfl rfl) (Ar ?_)
     exact ⟨⟨[_], tm, rfl⟩, tv⟩
    ·refine Ai (wp rfl (qf Ht rfl (ql IL rfl (qf Bb rfl (ql A7 rfl (qf Di rfl (ql B1 rfl ?_)))))))
     refine BJ h fun v12 a12 b12 h => qi Au CK a12 (Af b12) rfl (qk B1 rfl (qf Bb rfl (ql A7 rfl (qf HV rfl (ql B1 rfl ?_)))))
     refine BJ h fun v13 a13 b13 h => qi Au CK a13 (Af b13) rfl (qk B1 rfl ?_)
     refine BD h fun v14 a14 h => Aw [] (I4 N p1.fP v12 v13 v14 a14) cq rfl (Cp rfl (AM (by kernel_rfl) ?_))
     refine Ba h (fun h => ?_) fun h => ?_
     ·refine wq rfl (qe rfl ?_)
      obtain rfl := sj h
      refine Ae (sm [] [(4, iD 6)] [] rfl rfl) (Ar ?_)
      exact ⟨⟨[_], tm, rfl⟩, tv⟩
     ·refine Ai (wp rfl (qf GH rfl (ql B1 rfl (BA rfl (Ac ?_)))))
      refine Ba h (fun h => ?_) fun h => ?_
      ·refine wp rfl (qf FI rfl (ql IL rfl (AI EL rfl (BA rfl (Ac ?_)))))
       refine Ba h (fun h => ?_) fun h => ?_
       ·refine wq rfl (qe rfl ?_)
        obtain rfl := sj h
        refine Ae (sm [] [(4, iD 6)] [] rfl rfl) (Ar ?_)
        exact ⟨⟨[_], tm, rfl⟩, tv⟩
       ·refine Ai (wq rfl (qe rfl ?_))
        obtain rfl := sj h
        refine Ae (sm [] [(4, iD 0)] [] rfl rfl) (Ar ?_)
        exact ⟨⟨[_], tm, rfl⟩, tv⟩
      ·refine Ai (wp rfl (qf FI rfl (ql IL rfl (qf Bb rfl (ql A7 rfl (qf Di rfl (ql B1 rfl ?_)))))))
       refine BJ h fun v18 a18 b18 h => qi Au CK a18 (Af b18) rfl (qk B1 rfl (qf Bb rfl (ql A7 rfl (qf Di rfl (ql B1 rfl ?_)))))
       refine BJ h fun v19 a19 b19 h => qi Au CK a19 (Af b19) rfl (qk B1 rfl ?_)
       refine BD h fun v20 a20 h => Aw [] (I4 N p1.fK v18 v19 v20 a20) cq rfl (Cp rfl (AM (by kernel_rfl) ?_))
       refine Ba h (fun h => ?_) fun h => ?_
       ·refine wq rfl (qe rfl ?_)
        obtain rfl := sj h
        refine Ae (sm [] [(4, iD 6)] [] rfl rfl) (Ar ?_)
        exact ⟨⟨[_], tm, rfl⟩, tv⟩
       ·refine Ai (wp rfl (qe rfl ?_))
        refine AC (L := B7 N p1) h (fun v22 => mk [(3, oD (.ptr 3 0)), (6, iD v22)] [(3, .box (Bg p1))]) (fun v23 => mk [] []) (fun _ _ => rfl) (sm [] _ _ rfl rfl) (fun j22 n22 v22 h => ?_) (fun v23 s h hs => ?_)
        ·unfold B7 at h
         refine wp rfl (qm rfl (qf FI rfl (ql IL rfl (AI EL rfl (AY rfl (Ac ?_))))))
         refine Ba h (fun h => ?_) fun h => ?_
         ·refine Ai (AL (AJ (wq rfl (qf FI rfl (ql IL rfl (qm rfl ?_))))))
          refine BJ h fun v25 a25 b25 h => qi EL Ka a25 (Af b25) rfl (qk O9 rfl (qm rfl ?_))
          refine BJ h fun v26 a26 b26 h => qi FC PB a26 (Af b26) rfl (qk Uq rfl (Cp rfl (Ac ?_)))
          refine Ba h (fun h => ?_) fun h => ?_
          ·refine wq rfl (qe rfl ?_)
           obtain rfl := sj h
           refine Ae (sm [] [(4, iD 1)] [] rfl rfl) (Ar ?_)
           exact ⟨⟨[_], tm, rfl⟩, tv⟩
          ·refine Ai (Ag Av rfl (qm rfl (A0 rfl (qe rfl ?_))))
           exact sn [] h
         ·refine AU ?_
          exact sn [] h
        ·refine Ae hs (wq rfl (qe rfl ?_))
         obtain rfl := sj h
         refine Ae (sm [] [(4, iD 0)] [] rfl rfl) (Ar ?_)
         exact ⟨⟨[_], tm, rfl⟩, tv⟩
theorem Ep (N : Nat) (p0 : Aa) (r : Int) (h : BM N p0 = some r) : An zA0 33 [.e (.agg (Ah p0))] [] (iD r) := by
 unfold BM at h
 refine cw (n := 102) (rs := [.tmp 2]) Tryz.func33 fun w0 S0 => ?_
 refine wq rfl (qb rfl (qa rfl (Ac (AL ?_))))
 refine AS h (fun v1 => mk [(1, oD (.ptr 1 0)), (16, bD v1)] [(1, .box (Ah p0))]) (fun j1 h => ?_) (fun v1 h => ?_)
 ·refine Ag Av rfl (qf Bb rfl (ql A7 rfl (AI Au rfl (Gg rfl (qm rfl ?_)))))
  refine En 11 h rfl (fun h => ?_) fun h => ?_
  ·refine qw 4 rfl (qp rfl (Ac ?_))
   exact sn [] h
  ·refine qf Cj rfl (ql Hp rfl (AI DD rfl (Gg rfl (qp rfl (Ac ?_)))))
   exact sn [] h
 ·refine Ba h (fun h => ?_) fun h => ?_
  ·refine wq rfl (qe rfl ?_)
   obtain rfl := sj h
   refine Ae (sm [] [(2, iD 3)] [] rfl rfl) (Ar ?_)
   exact ⟨⟨[_], tm, rfl⟩, tv⟩
  ·refine Ai (AL ?_)
   refine AS h (fun v4 => mk [(1, oD (.ptr 1 0)), (32, bD v4)] [(1, .box (Ah p0))]) (fun j4 h => ?_) (fun v4 h => ?_)
   ·refine Ag Av rfl (qf FH rfl (ql A7 rfl (AI Au rfl (qf Bb rfl (ql A7 rfl (AI Au rfl (BA rfl (qm rfl ?_))))))))
    refine En 24 h rfl (fun h => ?_) fun h => ?_
    ·refine qw 7 rfl (qp rfl (Ac ?_))
     exact sn [] h
    ·refine qf G4 rfl (ql A7 rfl (AI Au rfl (qf Bb rfl (ql A7 rfl (AI Au rfl (BA rfl (qp rfl (Ac ?_))))))))
     exact sn [] h
   ·refine Ba h (fun h => ?_) fun h => ?_
    ·refine wq rfl (qe rfl ?_)
     obtain rfl := sj h
     refine Ae (sm [] [(2, iD 6)] [] rfl rfl) (Ar ?_)
     exact ⟨⟨[_], tm, rfl⟩, tv⟩
    ·refine Ai (wp rfl (qe rfl ?_))
     refine AC (L := Bl N p0) h (fun v7 => mk [(1, oD (.ptr 1 0)), (3, iD v7)] [(1, .box (Ah p0))]) (fun v8 => mk [(1, oD (.ptr 1 0))] [(1, .box (Ah p0))]) (fun _ _ => rfl) (sm [] _ _ rfl rfl) (fun j7 n7 v7 h => ?_) (fun v8 s h hs => ?_)
     ·unfold Bl at h
      refine wp rfl (qm rfl (qf Bb rfl (ql A7 rfl (AI Au rfl (AY rfl (Ac ?_))))))
      refine Ba h (fun h => ?_) fun h => ?_
      ·refine Ai (AL (AJ (wq rfl (qf Bb rfl (ql A7 rfl (qm rfl ?_))))))
       refine BJ h fun v10 a10 b10 h => qi Au CK a10 (Af b10) rfl (qk B1 rfl (qe rfl ?_))
       refine AS h (fun v11 => mk [(1, oD (.ptr 1 0)), (3, iD v7), (84, bD v11)] [(1, .box (Ah p0))]) (fun j11 h => ?_) (fun v11 h => ?_)
       ·refine Ag Av rfl (qm rfl (AY rfl (qm rfl ?_)))
        refine En 47 h rfl (fun h => ?_) fun h => ?_
        ·refine qw 2 rfl (qp rfl (qw 7 rfl (qp rfl (qw 8 rfl (qp rfl (qw 7 rfl (qp rfl (qw 8 rfl (qp rfl (Ac ?_))))))))))
         exact sn [] h
        ·refine qm rfl (Gg rfl (qp rfl (qm rfl ?_)))
         refine En 51 h rfl (fun h => ?_) fun h => ?_
         ·refine qw 6 rfl (qp rfl (qw 8 rfl (qp rfl (qw 7 rfl (qp rfl (qw 8 rfl (qp rfl (Ac ?_))))))))
          exact sn [] h
         ·refine qf FH rfl (ql A7 rfl (qm rfl ?_))
          refine BJ h fun v14 a14 b14 h => qi Au CK a14 (Af b14) rfl (qk B1 rfl (AY rfl (qp rfl (qm rfl ?_))))
          refine En 59 h rfl (fun h => ?_) fun h => ?_
          ·refine qw 7 rfl (qp rfl (qw 7 rfl (qp rfl (qw 8 rfl (qp rfl (Ac ?_))))))
           exact sn [] h
          ·refine qf FH rfl (ql A7 rfl (qm rfl ?_))
           refine BJ h fun v16 a16 b16 h => qi Au CK a16 (Af b16) rfl (qk B1 rfl (qm rfl (EF rfl (qp rfl (qm rfl ?_)))))
           refine En 68 h rfl (fun h => ?_) fun h => ?_
           ·refine qw 6 rfl (qp rfl (qw 8 rfl (qp rfl (Ac ?_))))
            exact sn [] h
           ·refine qf G4 rfl (ql A7 rfl (qm rfl ?_))
            refine BJ h fun v18 a18 b18 h => qi Au CK a18 (Af b18) rfl (qk B1 rfl (AY rfl (qp rfl (qm rfl ?_))))
            refine En 76 h rfl (fun h => ?_) fun h => ?_
            ·refine qw 7 rfl (qp rfl (Ac ?_))
             exact sn [] h
            ·refine qf G4 rfl (ql A7 rfl (qm rfl ?_))
             refine BJ h fun v20 a20 b20 h => qi Au CK a20 (Af b20) rfl (qk B1 rfl (qm rfl (EF rfl (qp rfl (Ac ?_)))))
             exact sn [] h
       ·refine Ba h (fun h => ?_) fun h => ?_
        ·refine wq rfl (qe rfl ?_)
         obtain rfl := sj h
         refine Ae (sm [] [(2, iD 7)] [] rfl rfl) (Ar ?_)
         exact ⟨⟨[_], tm, rfl⟩, tv⟩
        ·refine Ai (Ag Av rfl (qm rfl (A0 rfl (qe rfl ?_))))
         exact sn [] h
      ·refine AU ?_
       exact sn [] h
     ·refine Ae hs (wp rfl (qe rfl ?_))
      refine AC (L := Bi N p0) h (fun v22 => mk [(1, oD (.ptr 1 0)), (5, iD v22)] [(1, .box (Ah p0))]) (fun v23 => mk [] []) (fun _ _ => rfl) (sm [] _ _ rfl rfl) (fun j22 n22 v22 h => ?_) (fun v23 s h hs => ?_)
      ·unfold Bi at h
       refine wp rfl (qm rfl (qf Cj rfl (ql Hp rfl (AI DD rfl (AY rfl (Ac ?_))))))
       refine Ba h (fun h => ?_) fun h => ?_
       ·refine Ai (AL (AJ (wq rfl (qL CO BU rfl (qf Cj rfl (ql Hp rfl (qm rfl ?_)))))))
        refine BJ h fun v25 a25 b25 h => qi DD Du a25 (Af b25) rfl (qK Ha Du rfl ?_)
        refine BD h fun v26 a26 h => Aw [] (MO N p0 v25 v26 a26) eF rfl (qa rfl (AM (by kernel_rfl) (wq rfl (qm rfl (BA rfl (Ac ?_))))))
        refine Ba h (fun h => ?_) fun h => ?_
        ·refine wq rfl (qm rfl (qe rfl ?_))
         obtain rfl := sj h
         refine Ae (sm [] [(2, iD v26)] [] rfl rfl) (Ar ?_)
         exact ⟨⟨[_], tm, rfl⟩, tv⟩
        ·refine Ai (Ag Av rfl (qm rfl (A0 rfl (qe rfl ?_))))
         exact sn [] h
       ·refine AU ?_
        exact sn [] h
      ·refine Ae hs (wq rfl (qe rfl ?_))
       obtain rfl := sj h
       refine Ae (sm [] [(2, iD 0)] [] rfl rfl) (Ar ?_)
       exact ⟨⟨[_], tm, rfl⟩, tv⟩
theorem Oc (N : Nat) (p0 : Int) (r : (List Int)) (h : H6 N p0 = some r) : An zA0 55 [iD p0] [(1, r.map Ak)] (oD (.own 0)) := by
 unfold H6 at h
 refine cw (n := 21) (rs := [.tmp 2]) Tryz.func55 fun w0 S0 => ?_
 refine wq rfl (qa rfl (Ac (wq rfl (qa rfl (Ac (wp rfl (qe rfl ?_)))))))
 refine AC (L := FJ N p0) h (fun v1 => mk [(0, iD p0), (3, oD (.own 2001)), (4, iD v1.2)] [(2001, .vec 1 (v1.1.map Ak))]) (fun v2 => mk [(3, oD (.own 2002))] [(2002, .vec 1 (v2.map Ak))]) (fun _ _ => rfl) ((A9 3 2004 1 rfl rfl rfl).trans (sm [(2001, 2004)] _ _ rfl rfl)) (fun j1 n1 v1 h => ?_) (fun v2 s h hs => ?_)
 ·unfold FJ at h
  refine wp rfl (qw 2 rfl ?_)
  refine FD h fun c3 h => GR rfl c3 (Gg rfl (Ac ?_))
  refine Ba h (fun h => ?_) fun h => ?_
  ·refine Ai ?_
   refine AS h (fun v5 => mk [(0, iD p0), (3, oD (.own 2003)), (4, iD v1.2)] [(2003, .vec 1 (v5.map Ak))]) (fun j5 h => ?_) (fun v5 h => ?_)
   ·refine AJ (wq rfl (qw 2 rfl ?_))
    refine FD h fun c6 h => GR rfl c6 (MY rfl (by decide) (Cf rfl (Ac ?_)))
    refine Ba h (fun h => ?_) fun h => ?_
    ·refine Ag Av rfl (qw 2 rfl (Dg Au CK I6 rfl ?_))
     refine FD h fun c8 h => Cu (f := Ak) Au Au CK Ki I6 c8 rfl (qe rfl ?_)
     exact sn [(2003, 19)] h
    ·refine Ai ?_
     exact sn [(2003, 2001)] h
   ·refine Ag Av rfl (qm rfl (A0 rfl (qe rfl ?_)))
    exact sn [(2001, 2003)] h
  ·refine AU ?_
   exact sn [(2002, 2001)] h
 ·refine Ae hs (wq rfl (qm rfl (qe rfl ?_)))
  obtain rfl := sj h
  refine Ae (sm [(1000, 2002)] [(2, oD (.own 1000))] [(1000, .vec 1 (v2.map Ak))] rfl rfl) (Ar ?_)
  exact ⟨⟨[_], tm, rfl⟩, ⟨rfl, tv⟩⟩
theorem LS (N : Nat) (p0 : List Int) (p1 : List Int) (r : Bool) (h : GX N p0 p1 = some r) : An zA0 56 [pD (.sl (p0.map Ak)), pD (.sl (p1.map Ak))] [] (bD r) := by
 unfold GX at h
 refine cw (n := 40) (rs := [.tmp 4]) Tryz.func56 fun w0 S0 => ?_
 refine wq rfl (qa rfl (Ac (wp rfl (qm rfl (AI Au rfl (qm rfl (AI Au rfl (BA rfl (Ac ?_)))))))))
 refine Ba h (fun h => ?_) fun h => ?_
 ·refine wq rfl (qm rfl (AI Au rfl (qm rfl (AI Au rfl (AY rfl (qe rfl ?_))))))
  obtain rfl := sj h
  refine Ae (sm [] [(4, bD ((decide ((p0.length : Int) < (p1.length : Int)))))] [] rfl rfl) (Ar ?_)
  exact ⟨⟨[_], tm, rfl⟩, tv⟩
 ·refine Ai (wp rfl (qe rfl ?_))
  refine AC (L := ES N p0 p1) h (fun v2 => mk [(0, pD (.sl (p0.map Ak))), (1, pD (.sl (p1.map Ak))), (5, iD v2)] []) (fun v3 => mk [] []) (fun _ _ => rfl) (sm [] _ _ rfl rfl) (fun j2 n2 v2 h => ?_) (fun v3 s h hs => ?_)
  ·unfold ES at h
   refine wp rfl (qw 2 rfl (AI Au rfl (AY rfl (Ac ?_))))
   refine Ba h (fun h => ?_) fun h => ?_
   ·refine Ai (AL (AJ (wq rfl (qw 2 rfl ?_))))
    refine BJ h fun v5 a5 b5 h => qi Au CK a5 (Af b5) rfl (qk B1 rfl (qw 2 rfl ?_))
    refine BJ h fun v6 a6 b6 h => qi Au CK a6 (Af b6) rfl (qk B1 rfl (BA rfl (AM (by kernel_rfl) ?_)))
    refine Ba h (fun h => ?_) fun h => ?_
    ·refine wq rfl (qw 2 rfl ?_)
     refine BJ h fun v8 a8 b8 h => qi Au CK a8 (Af b8) rfl (qk B1 rfl (qw 2 rfl ?_))
     refine BJ h fun v9 a9 b9 h => qi Au CK a9 (Af b9) rfl (qk B1 rfl (AY rfl (qa rfl (AM (by kernel_rfl) ?_))))
     obtain rfl := sj h
     refine Ae (sm [] [(4, bD ((decide (v8 < v9))))] [] rfl rfl) (Ar ?_)
     exact ⟨⟨[_], tm, rfl⟩, tv⟩
    ·refine Ai (Ag Av rfl (qm rfl (A0 rfl (qe rfl ?_))))
     exact sn [] h
   ·refine AU ?_
    exact sn [] h
  ·refine Ae hs (wq rfl (qe rfl ?_))
   obtain rfl := sj h
   refine Ae (sm [] [(4, bD false)] [] rfl rfl) (Ar ?_)
   exact ⟨⟨[_], tm, rfl⟩, tv⟩
theorem J6 (N : Nat) (p0 : Int) (r : (List (List Int))) (h : Cr N p0 = some r) : An zA0 30 [iD p0] [(1, r.map (FO Ak))] (oD (.own 0)) := by
 unfold Cr at h
 refine cw (n := 53) (rs := [.tmp 2]) Tryz.func30 fun w0 S0 => ?_
 refine wq rfl (qa rfl (Ac (wq rfl (qa rfl (Ac (wp rfl (qe rfl ?_)))))))
 refine AC (L := Fl N p0) h (fun v1 => mk [(0, iD p0), (3, oD (.own 2001)), (4, iD v1.2)] [(2001, .vec 1 (v1.1.map (FO Ak)))]) (fun v2 => mk [(3, oD (.own 2002))] [(2002, .vec 1 (v2.map (FO Ak)))]) (fun _ _ => rfl) ((A9 3 2007 1 rfl rfl rfl).trans (sm [(2001, 2007)] _ _ rfl rfl)) (fun j1 n1 v1 h => ?_) (fun v2 s h hs => ?_)
 ·unfold Fl at h
  refine wp rfl (qw 2 rfl ?_)
  refine FD h fun c3 h => Jo rfl c3 (AY rfl (Ac ?_))
  refine Ba h (fun h => ?_) fun h => ?_
  ·refine Ai (AL (AJ (wq rfl (qw 2 rfl ?_))))
   refine BD h fun v5 a5 h => Aw [2003] (Oc N v1.2 v5 a5) fj rfl (CE (A4 2003 _ _ rfl rfl) (Dg G6 Ig Wh rfl ?_))
   refine FD h fun c6 h => Cu (f := (FO Ak)) G6 G6 Ig aj Wh c6 rfl (qa rfl (Ac (wq rfl (qm rfl (Et G6 rfl (J9 rfl (qe rfl ?_)))))))
   refine AC (L := Fp N) h (fun v7 => mk [(0, iD p0), (3, oD (.own 2004)), (4, iD v1.2), (5, iD v7.2)] [(2004, .vec 1 (v7.1.map (FO Ak)))]) (fun v8 => mk [(0, iD p0), (3, oD (.own 2005)), (4, iD v1.2)] [(2005, .vec 1 (v8.map (FO Ak)))]) (fun _ _ => rfl) (sm [(2004, 16)] _ _ rfl rfl) (fun j7 n7 v7 h => ?_) (fun v8 s h hs => ?_)
   ·unfold Fp at h
    refine AL ?_
    refine AS h (fun v9 => mk [(0, iD p0), (3, oD (.own 2006)), (4, iD v1.2), (5, iD v7.2), (33, bD v9)] [(2006, .vec 1 (v7.1.map (FO Ak)))]) (fun j9 h => ?_) (fun v9 h => ?_)
    ·refine Ag Av rfl (qm rfl (Gg rfl (qm rfl ?_)))
     refine En 22 h rfl (fun h => ?_) fun h => ?_
     ·refine qw 2 rfl ?_
      refine BJ h fun v11 a11 b11 h => qI G6 Ig a11 (Af b11) rfl (qj A7 (Af b11) rfl (qw 2 rfl (J9 rfl ?_)))
      refine BJ h fun v12 a12 b12 h => qI G6 Ig a12 (Af b12) rfl (qj A7 (Af b12) rfl ?_)
      refine BD h fun v13 a13 h => Aw [] (LS N v11 v12 v13 a13) fo rfl (qp rfl (AM (by kernel_rfl) ?_))
      exact sn [(2006, 2004)] h
     ·refine qw 10 rfl (qp rfl (AM (by kernel_rfl) ?_))
      exact sn [(2006, 2004)] h
    ·refine Ba h (fun h => ?_) fun h => ?_
     ·refine Ai (AL (AJ (Ag Av rfl (qw 4 rfl (J9 rfl (qw 2 rfl (J9 rfl ?_)))))))
      refine BJ h fun v15 a15 b15 h => qI G6 Ig a15 (Af b15) rfl (qj A7 (Af b15) rfl (qw 2 rfl ?_))
      refine BJ h fun v16 a16 b16 h => qI G6 Ig a16 (Af b16) rfl (qj A7 (Af b16) rfl ?_)
      refine BJ h fun v17 a17 b17 h => qI G6 Ig a17 (Af b17) rfl ?_
      refine DM rfl rfl rfl rfl (Af b17) rfl Ig rfl (Jw rfl) (Dx (FO Ak) v7.1 _ v15) ?_
      refine BJ h fun v18 a18 b18 h => qI G6 Ig a18 (Af b18) rfl ?_
      refine DM rfl rfl rfl rfl (Af b18) rfl Ig rfl (Jw rfl) (Dx (FO Ak) (v7.1.set ((v7.2).toNat) v15) _ v16) ?_
      refine AM (by kernel_rfl) (Ag Av rfl (qm rfl (J9 rfl (qe rfl ?_))))
      exact sn [(2004, 2006)] h
     ·refine AU ?_
      exact sn [(2005, 2006)] h
   ·refine Ae hs (Ag Av rfl (qm rfl (A0 rfl (qe rfl ?_))))
    exact sn [(2001, 2005)] h
  ·refine AU ?_
   exact sn [(2002, 2001)] h
 ·refine Ae hs (wq rfl (qm rfl (qe rfl ?_)))
  obtain rfl := sj h
  refine Ae (sm [(1000, 2002)] [(2, oD (.own 1000))] [(1000, .vec 1 (v2.map (FO Ak)))] rfl rfl) (Ar ?_)
  exact ⟨⟨[_], tm, rfl⟩, ⟨rfl, tv⟩⟩
theorem Jq (N : Nat) (p0 : List Int) (p1 : Int) (r : Int) (h : Ec N p0 p1 = some r) : An zA0 57 [pD (.sl (p0.map Ak)), iD p1] [] (iD r) := by
 unfold Ec at h
 refine cw (n := 19) (rs := [.tmp 4]) Tryz.func57 fun w0 S0 => ?_
 refine wq rfl (qa rfl (Ac (wp rfl (qe rfl ?_))))
 refine AC (L := Cl N p0 p1) h (fun v1 => mk [(0, pD (.sl (p0.map Ak))), (1, iD p1), (5, iD v1)] []) (fun v2 => mk [] []) (fun _ _ => rfl) (sm [] _ _ rfl rfl) (fun j1 n1 v1 h => ?_) (fun v2 s h hs => ?_)
 ·unfold Cl at h
  refine wp rfl (qw 2 rfl (AI Au rfl (AY rfl (Ac ?_))))
  refine Ba h (fun h => ?_) fun h => ?_
  ·refine Ai (AL (AJ (wq rfl (qw 2 rfl ?_))))
   refine BJ h fun v4 a4 b4 h => qi Au CK a4 (Af b4) rfl (qk B1 rfl (qm rfl (Cf rfl (Ac ?_))))
   refine Ba h (fun h => ?_) fun h => ?_
   ·refine wq rfl (qm rfl (qe rfl ?_))
    obtain rfl := sj h
    refine Ae (sm [] [(4, iD v1)] [] rfl rfl) (Ar ?_)
    exact ⟨⟨[_], tm, rfl⟩, tv⟩
   ·refine Ai (Ag Av rfl (qm rfl (A0 rfl (qe rfl ?_))))
    exact sn [] h
  ·refine AU ?_
   exact sn [] h
 ·refine Ae hs (wq rfl (qe rfl ?_))
  obtain rfl := sj h
  refine Ae (sm [] [(4, iD ((-1)))] [] rfl rfl) (Ar ?_)
  exact ⟨⟨[_], tm, rfl⟩, tv⟩
theorem I3 (N : Nat) (p0 : List (List Bool)) (r : (List (List Bool))) (h : DZ N p0 = some r) : An zA0 92 [pD (.sl (p0.map (FO eB)))] [(1, r.map (FO eB))] (oD (.own 0)) := by
 unfold DZ at h
 refine cw (n := 21) (rs := [.tmp 2]) Tryz.func92 fun w0 S0 => ?_
 refine wq rfl (qa rfl (Ac (wq rfl (qa rfl (Ac (wp rfl (qe rfl ?_)))))))
 refine AC (L := CP N p0) h (fun v1 => mk [(0, pD (.sl (p0.map (FO eB)))), (3, oD (.own 2001)), (4, iD v1.2)] [(2001, .vec 1 (v1.1.map (FO eB)))]) (fun v2 => mk [(3, oD (.own 2002))] [(2002, .vec 1 (v2.map (FO eB)))]) (fun _ _ => rfl) ((A9 3 2003 1 rfl rfl rfl).trans (sm [(2001, 2003)] _ _ rfl rfl)) (fun j1 n1 v1 h => ?_) (fun v2 s h hs => ?_)
 ·unfold CP at h
  refine wp rfl (qw 2 rfl (AI EL rfl (AY rfl (Ac ?_))))
  refine Ba h (fun h => ?_) fun h => ?_
  ·refine Ai (AL (AJ (Ag Av rfl (qm rfl (Dg FC PB Ut rfl (qw 2 rfl ?_))))))
   refine BJ h fun v4 a4 b4 h => qi EL Ka a4 (Af b4) rfl (qk O9 rfl ?_)
   refine FD h fun c5 h => IC (f := eB) FC FC PB Xg Ut (fun _ => rfl) c5 rfl (CE (A4 17 _ _ rfl rfl) (Dg EL Ka UV rfl ?_))
   refine FD h fun c6 h => Cu (f := (FO eB)) EL EL Ka X3 UV c6 rfl (qa rfl (Ac (Ag Av rfl (qm rfl (A0 rfl (qe rfl ?_))))))
   exact sn [(2001, 19)] h
  ·refine AU ?_
   exact sn [(2002, 2001)] h
 ·refine Ae hs (wq rfl (qm rfl (qe rfl ?_)))
  obtain rfl := sj h
  refine Ae (sm [(1000, 2002)] [(2, oD (.own 1000))] [(1000, .vec 1 (v2.map (FO eB)))] rfl rfl) (Ar ?_)
  exact ⟨⟨[_], tm, rfl⟩, ⟨rfl, tv⟩⟩
theorem L1 (N : Nat) (p0 : Am) (p1 : Int) (p2 : Int) (r : Am) (h : FE N p0 p1 p2 = some r) : An zA0 58 [.e (.agg (Bg p0)), iD p1, iD p2] [(1, r.fP.map (FO eB)), (1, r.fK.map (FO eB))] (.e (.agg [iC r.fG, iC r.fF, iC r.fJ, .pure (.val (.bool r.fQ)), .own 0, .own 1])) := by
 unfold FE at h
 refine cw (n := 20) (rs := [.cell 6 84]) Tryz.func58 fun w0 S0 => ?_
 refine wq rfl (qb rfl (qz Jl rfl (Ac (wq rfl (qf GH rfl (ql B1 rfl (qw 2 rfl (qf JD rfl (ql Uq rfl (qf Ht rfl (ql IL rfl ?_)))))))))))
 refine BD h fun v1 a1 h => Aw [2001] (I3 N p0.fP v1 a1) cD rfl (qf FI rfl (ql IL rfl ?_))
 refine BD h fun v2 a2 h => Aw [2002] (I3 N p0.fK v2 a2) cD rfl (Bk Jl Zj rfl (qs Du rfl (AM (by kernel_rfl) ?_)))
 obtain rfl := sj h
 refine Ae (sm [(1000, 2001), (1001, 2002)] [(6, oD (.ptr 6 0))] [(6, .box [iC p0.fG, iC p1, iC p2, .pure (.val (.bool p0.fQ)), .own 1000, .own 1001]), (1000, .vec 1 (v1.map (FO eB))), (1001, .vec 1 (v2.map (FO eB)))] rfl rfl) (Ar ?_)
 exact ⟨⟨[_], ⟨.cellN _ _ _ _ _ _ _ rfl rfl Ha Du rfl rfl (JG rfl), tv⟩, rfl⟩, ⟨rfl, rfl, tv⟩⟩
theorem Ir (N : Nat) (p0 : Aa) (p1 : List Int) (r : Aa × Int) (h : C2 N p0 p1 = some r) : An zA0 31 [.e (.agg (Ah p0)), pD (.sl (p1.map Ak))] [(1, r.1.fA.map Ak), (1, r.1.fH.map Ak), (1, r.1.fL.map Ak), (6, r.1.fC.map AO)] (.tup [.agg [.own 0, .own 1, .own 2, .own 3], .one (iC r.2)]) := by
 unfold C2 at h
 refine cw (n := 124) (rs := [.cell 4 29, .tmp 5]) Tryz.func31 fun w0 S0 => ?_
 refine wq rfl (qb rfl (qz Kj rfl (qa rfl (Ac (wp rfl (qL CO BU rfl ?_))))))
 refine BD h fun v1 a1 h => Aw [] (Ep N p0 v1 a1) ZH rfl (qa rfl (Ac (wq rfl (qm rfl (BA rfl (Ac ?_))))))
 refine Ba h (fun h => ?_) fun h => ?_
 ·refine wq rfl (Bk Kj Td rfl (qm rfl (qs BU rfl (qe rfl ?_))))
  obtain rfl := sj h
  refine Ae ((Aq 4 0 2001 1 _ rfl rfl rfl rfl).trans ((Aq 4 1 2002 1 _ rfl rfl rfl rfl).trans ((Aq 4 2 2003 1 _ rfl rfl rfl rfl).trans ((Aq 4 3 2004 6 _ rfl rfl rfl rfl).trans (sm [(1000, 2001), (1001, 2002), (1002, 2003), (1003, 2004)] [(4, oD (.ptr 4 0)), (5, iD v1)] [(4, .box [.own 1000, .own 1001, .own 1002, .own 1003]), (1000, .vec 1 ((([] : List Int)).map Ak)), (1001, .vec 1 ((([] : List Int)).map Ak)), (1002, .vec 1 ((([] : List Int)).map Ak)), (1003, .vec 6 ((([] : List Am)).map AO))] rfl rfl))))) (Ar ?_)
  exact ⟨⟨[_, _], ⟨.cellN _ _ _ _ _ _ _ rfl rfl CO BU rfl rfl (JG rfl), tm⟩, rfl⟩, ⟨rfl, rfl, rfl, rfl, tv⟩⟩
 ·refine Ai (wp rfl (qe rfl ?_))
  refine AC (L := A5 N p1) h (fun v3 => mk [(1, pD (.sl (p1.map Ak))), (2, oD (.ptr 2 0)), (4, oD (.ptr 4 0)), (7, iD v3)] [(2, .box (Ah p0)), (4, .box [.pure (.nil0), .pure (.nil0), .pure (.nil0), .pure (.nil0)])]) (fun v4 => mk [(1, pD (.sl (p1.map Ak))), (2, oD (.ptr 2 0)), (4, oD (.ptr 4 0))] [(2, .box (Ah p0)), (4, .box [.pure (.nil0), .pure (.nil0), .pure (.nil0), .pure (.nil0)])]) (fun _ _ => rfl) (sm [] _ _ rfl rfl) (fun j3 n3 v3 h => ?_) (fun v4 s h hs => ?_)
  ·unfold A5 at h
   refine wp rfl (qw 2 rfl (AI Au rfl (AY rfl (Ac ?_))))
   refine Ba h (fun h => ?_) fun h => ?_
   ·refine Ai (AL (AJ (wq rfl (qw 2 rfl ?_))))
    refine BJ h fun v6 a6 b6 h => qi Au CK a6 (Af b6) rfl (qk B1 rfl (qw 2 rfl (J9 rfl ?_)))
    refine BJ h fun v7 a7 b7 h => qi Au CK a7 (Af b7) rfl (qk B1 rfl (VD rfl (AM (by kernel_rfl) ?_)))
    refine Ba h (fun h => ?_) fun h => ?_
    ·refine wq rfl (Bk Kj Td rfl (qs BU rfl (qe rfl ?_)))
     obtain rfl := sj h
     refine Ae ((Aq 4 0 2005 1 _ rfl rfl rfl rfl).trans ((Aq 4 1 2006 1 _ rfl rfl rfl rfl).trans ((Aq 4 2 2007 1 _ rfl rfl rfl rfl).trans ((Aq 4 3 2008 6 _ rfl rfl rfl rfl).trans (sm [(1000, 2005), (1001, 2006), (1002, 2007), (1003, 2008)] [(4, oD (.ptr 4 0)), (5, iD 1)] [(4, .box [.own 1000, .own 1001, .own 1002, .own 1003]), (1000, .vec 1 ((([] : List Int)).map Ak)), (1001, .vec 1 ((([] : List Int)).map Ak)), (1002, .vec 1 ((([] : List Int)).map Ak)), (1003, .vec 6 ((([] : List Am)).map AO))] rfl rfl))))) (Ar ?_)
     exact ⟨⟨[_, _], ⟨.cellN _ _ _ _ _ _ _ rfl rfl CO BU rfl rfl (JG rfl), tm⟩, rfl⟩, ⟨rfl, rfl, rfl, rfl, tv⟩⟩
    ·refine Ai (Ag Av rfl (qm rfl (A0 rfl (qe rfl ?_))))
     exact sn [] h
   ·refine AU ?_
    exact sn [] h
  ·refine Ae hs (wq rfl (qz Kj rfl (Ac (wp rfl (qe rfl ?_)))))
   refine AC (L := C0 N p0 p1) h (fun v9 => mk [(1, pD (.sl (p1.map Ak))), (2, oD (.ptr 2 0)), (4, oD (.ptr 4 0)), (8, oD (.ptr 8 0)), (9, iD v9.2.2.2)] [(2, .box (Ah p0)), (4, .box [.pure (.nil0), .pure (.nil0), .pure (.nil0), .pure (.nil0)]), (8, .box [.own 2009, .own 2010, .own 2011, .pure (.nil0)]), (2009, .vec 1 (v9.1.map Ak)), (2010, .vec 1 (v9.2.1.map Ak)), (2011, .vec 1 (v9.2.2.1.map Ak))]) (fun v10 => mk [(1, pD (.sl (p1.map Ak))), (2, oD (.ptr 2 0)), (4, oD (.ptr 4 0)), (8, oD (.ptr 8 0))] [(2, .box (Ah p0)), (4, .box [.pure (.nil0), .pure (.nil0), .pure (.nil0), .pure (.nil0)]), (8, .box [.own 2012, .own 2013, .own 2014, .pure (.nil0)]), (2012, .vec 1 (v10.1.map Ak)), (2013, .vec 1 (v10.2.1.map Ak)), (2014, .vec 1 (v10.2.2.map Ak))]) (fun _ _ => rfl) ((Aq 8 0 2022 1 _ rfl rfl rfl rfl).trans ((Aq 8 1 2023 1 _ rfl rfl rfl rfl).trans ((Aq 8 2 2024 1 _ rfl rfl rfl rfl).trans (sm [(2009, 2022), (2010, 2023), (2011, 2024)] _ _ rfl rfl)))) (fun j9 n9 v9 h => ?_) (fun v10 s h hs => ?_)
   ·unfold C0 at h
    refine wp rfl (qw 2 rfl (AI Au rfl (AY rfl (Ac ?_))))
    refine Ba h (fun h => ?_) fun h => ?_
    ·refine Ai (AL (AJ (wq rfl (qw 2 rfl ?_))))
     refine BJ h fun v12 a12 b12 h => qi Au CK a12 (Af b12) rfl (qk B1 rfl (qa rfl (Ac (AL ?_))))
     refine AS h (fun v13 => mk [(1, pD (.sl (p1.map Ak))), (2, oD (.ptr 2 0)), (4, oD (.ptr 4 0)), (8, oD (.ptr 8 0)), (9, iD v9.2.2.2), (10, iD v12), (56, bD v13)] [(2, .box (Ah p0)), (4, .box [.pure (.nil0), .pure (.nil0), .pure (.nil0), .pure (.nil0)]), (8, .box [.own 2015, .own 2016, .own 2017, .pure (.nil0)]), (2015, .vec 1 (v9.1.map Ak)), (2016, .vec 1 (v9.2.1.map Ak)), (2017, .vec 1 (v9.2.2.1.map Ak))]) (fun j13 h => ?_) (fun v13 h => ?_)
     ·refine Ag Av rfl (qm rfl (AY rfl (qm rfl ?_)))
      refine En 50 h rfl (fun h => ?_) fun h => ?_
      ·refine qw 5 rfl (qp rfl (Ac ?_))
       exact sn [(2015, 2009), (2016, 2010), (2017, 2011)] h
      ·refine qm rfl (qf Bb rfl (ql A7 rfl (AI Au rfl (EF rfl (qp rfl (Ac ?_))))))
       exact sn [(2015, 2009), (2016, 2010), (2017, 2011)] h
     ·refine Ba h (fun h => ?_) fun h => ?_
      ·refine wq rfl (Bk Kj Td rfl (qs BU rfl (qe rfl ?_)))
       obtain rfl := sj h
       refine Ae ((Aq 4 0 2018 1 _ rfl rfl rfl rfl).trans ((Aq 4 1 2019 1 _ rfl rfl rfl rfl).trans ((Aq 4 2 2020 1 _ rfl rfl rfl rfl).trans ((Aq 4 3 2021 6 _ rfl rfl rfl rfl).trans (sm [(1000, 2018), (1001, 2019), (1002, 2020), (1003, 2021)] [(4, oD (.ptr 4 0)), (5, iD 4)] [(4, .box [.own 1000, .own 1001, .own 1002, .own 1003]), (1000, .vec 1 ((([] : List Int)).map Ak)), (1001, .vec 1 ((([] : List Int)).map Ak)), (1002, .vec 1 ((([] : List Int)).map Ak)), (1003, .vec 6 ((([] : List Am)).map AO))] rfl rfl))))) (Ar ?_)
       exact ⟨⟨[_, _], ⟨.cellN _ _ _ _ _ _ _ rfl rfl CO BU rfl rfl (JG rfl), tm⟩, rfl⟩, ⟨rfl, rfl, rfl, rfl, tv⟩⟩
      ·refine Ai (wq rfl (qf Bb rfl (ql A7 rfl (qf Bb rfl (ql A7 rfl (qm rfl ?_))))))
       refine BJ h fun v16 a16 b16 h => qi Au CK a16 (Af b16) rfl (qk B1 rfl (Dg Au CK I6 rfl ?_))
       refine FD h fun c17 h => Cu (f := Ak) Au Au CK Ki I6 c17 rfl (qf Bb rfl (qs Ig rfl (AM (by kernel_rfl) (wq rfl (qf FH rfl (ql A7 rfl (qf FH rfl (ql A7 rfl (qm rfl ?_)))))))))
       refine BJ h fun v18 a18 b18 h => qi Au CK a18 (Af b18) rfl (qk B1 rfl (Dg Au CK I6 rfl ?_))
       refine FD h fun c19 h => Cu (f := Ak) Au Au CK Ki I6 c19 rfl (qf FH rfl (qs Ig rfl (AM (by kernel_rfl) (Ag Av rfl (qf G4 rfl (ql A7 rfl (qf G4 rfl (ql A7 rfl (qm rfl ?_)))))))))
       refine BJ h fun v20 a20 b20 h => qi Au CK a20 (Af b20) rfl (qk B1 rfl (Dg Au CK I6 rfl ?_))
       refine FD h fun c21 h => Cu (f := Ak) Au Au CK Ki I6 c21 rfl (qf G4 rfl (qs Ig rfl (AM (by kernel_rfl) (Ag Av rfl (qm rfl (A0 rfl (qe rfl ?_)))))))
       exact sn [(2009, 66), (2010, 76), (2011, 86)] h
    ·refine AU ?_
     exact sn [(2012, 2009), (2013, 2010), (2014, 2011)] h
   ·refine Ae hs (wp rfl (qe rfl ?_))
    refine AC (L := BL N p0 p1) h (fun v22 => mk [(1, pD (.sl (p1.map Ak))), (2, oD (.ptr 2 0)), (4, oD (.ptr 4 0)), (8, oD (.ptr 8 0)), (11, iD v22.2)] [(2, .box (Ah p0)), (4, .box [.pure (.nil0), .pure (.nil0), .pure (.nil0), .pure (.nil0)]), (8, .box [.own 2025, .own 2026, .own 2027, .own 2028]), (2025, .vec 1 (v10.1.map Ak)), (2026, .vec 1 (v10.2.1.map Ak)), (2027, .vec 1 (v10.2.2.map Ak)), (2028, .vec 6 (v22.1.map AO))]) (fun v23 => mk [(4, oD (.ptr 4 0)), (8, oD (.ptr 8 0))] [(4, .box [.pure (.nil0), .pure (.nil0), .pure (.nil0), .pure (.nil0)]), (8, .box [.own 2029, .own 2030, .own 2031, .own 2032]), (2029, .vec 1 (v10.1.map Ak)), (2030, .vec 1 (v10.2.1.map Ak)), (2031, .vec 1 (v10.2.2.map Ak)), (2032, .vec 6 (v23.map AO))]) (fun _ _ => rfl) ((Aq 8 3 2041 6 _ rfl rfl rfl rfl).trans (sm [(2025, 2012), (2026, 2013), (2027, 2014), (2028, 2041)] _ _ rfl rfl)) (fun j22 n22 v22 h => ?_) (fun v23 s h hs => ?_)
    ·unfold BL at h
     refine wp rfl (qm rfl (qf Cj rfl (ql Hp rfl (AI DD rfl (AY rfl (Ac ?_))))))
     refine Ba h (fun h => ?_) fun h => ?_
     ·refine Ai ?_
      refine AS h (fun v25 => mk [(1, pD (.sl (p1.map Ak))), (2, oD (.ptr 2 0)), (4, oD (.ptr 4 0)), (8, oD (.ptr 8 0)), (11, iD v22.2)] [(2, .box (Ah p0)), (4, .box [.pure (.nil0), .pure (.nil0), .pure (.nil0), .pure (.nil0)]), (8, .box [.own 2033, .own 2034, .own 2035, .own 2036]), (2033, .vec 1 (v10.1.map Ak)), (2034, .vec 1 (v10.2.1.map Ak)), (2035, .vec 1 (v10.2.2.map Ak)), (2036, .vec 6 (v25.map AO))]) (fun j25 h => ?_) (fun v25 h => ?_)
      ·refine AJ (wq rfl (qf Cj rfl (ql Hp rfl (qm rfl ?_))))
       refine BJ h fun v26 a26 b26 h => qi DD Du a26 (Af b26) rfl (qK Ha Du rfl (qz Jl rfl (qs Du rfl (Ac (wq rfl (qm rfl (qf Di rfl (ql B1 rfl ?_))))))))
       refine BD h fun v27 a27 h => Aw [] (Jq N p1 v26.fF v27 a27) ca rfl (qm rfl (qf HV rfl (ql B1 rfl ?_)))
       refine BD h fun v28 a28 h => Aw [] (Jq N p1 v26.fJ v28 a28) ca rfl (qa rfl (qa rfl (AM (by kernel_rfl) ?_)))
       refine AS h (fun v29 => mk [(1, pD (.sl (p1.map Ak))), (2, oD (.ptr 2 0)), (4, oD (.ptr 4 0)), (8, oD (.ptr 8 0)), (11, iD v22.2), (12, oD (.ptr 12 0)), (13, iD v27), (14, iD v28), (113, bD v29)] [(2, .box (Ah p0)), (4, .box [.pure (.nil0), .pure (.nil0), .pure (.nil0), .pure (.nil0)]), (8, .box [.own 2037, .own 2038, .own 2039, .own 2040]), (12, .box (Bg v26)), (2037, .vec 1 (v10.1.map Ak)), (2038, .vec 1 (v10.2.1.map Ak)), (2039, .vec 1 (v10.2.2.map Ak)), (2040, .vec 6 (v22.1.map AO))]) (fun j29 h => ?_) (fun v29 h => ?_)
       ·refine Ag Av rfl (qm rfl (EF rfl (qm rfl ?_)))
        refine En 110 h rfl (fun h => ?_) fun h => ?_
        ·refine qm rfl (EF rfl (qp rfl (Ac ?_)))
         exact sn [(2037, 2025), (2038, 2026), (2039, 2027), (2040, 2028)] h
        ·refine qw 2 rfl (qp rfl (Ac ?_))
         exact sn [(2037, 2025), (2038, 2026), (2039, 2027), (2040, 2028)] h
       ·refine Ba h (fun h => ?_) fun h => ?_
        ·refine Ag Av rfl (qf Cj rfl (ql Hp rfl (qL Ha Du rfl (qw 2 rfl ?_))))
         refine BD h fun v32 a32 h => Aw [] ((L1 N v26 v27 v28 v32 a32).share rfl) eD rfl (Dg DD Du Jl rfl ?_)
         refine FD h fun c33 h => Cu (f := AO) DD DD Du WW Jl c33 rfl (qf Cj rfl (qs bc rfl (AM (by kernel_rfl) ?_)))
         exact sn [(2033, 2037), (2034, 2038), (2035, 2039), (2036, 121)] h
        ·refine Ai ?_
         exact sn [(2033, 2037), (2034, 2038), (2035, 2039), (2036, 2040)] h
      ·refine Ag Av rfl (qm rfl (A0 rfl (qe rfl ?_)))
       exact sn [(2025, 2033), (2026, 2034), (2027, 2035), (2028, 2036)] h
     ·refine AU ?_
      exact sn [(2029, 2025), (2030, 2026), (2031, 2027), (2032, 2028)] h
    ·refine Ae hs (wq rfl (qL CO BU rfl (qs BU rfl (qe rfl ?_))))
     obtain rfl := sj h
     refine Ae (sm [(1000, 2029), (1001, 2030), (1002, 2031), (1003, 2032)] [(4, oD (.ptr 4 0)), (5, iD 0)] [(4, .box [.own 1000, .own 1001, .own 1002, .own 1003]), (1000, .vec 1 (v10.1.map Ak)), (1001, .vec 1 (v10.2.1.map Ak)), (1002, .vec 1 (v10.2.2.map Ak)), (1003, .vec 6 (v23.map AO))] rfl rfl) (Ar ?_)
     exact ⟨⟨[_, _], ⟨.cellN _ _ _ _ _ _ _ rfl rfl CO BU rfl rfl (JG rfl), tm⟩, rfl⟩, ⟨rfl, rfl, rfl, rfl, tv⟩⟩
theorem Jz (N : Nat) (p0 : Aa) (r : Ab × Int) (h : Ef N p0 = some r) : An zA0 59 [.e (.agg (Ah p0))] [(1, r.1.fD.map Ak), (1, r.1.fB.map Ak), (1, r.1.fE.map DL)] (.tup [.agg [.own 0, .own 1, .own 2], .one (iC r.2)]) := by
 unfold Ef at h
 refine cw (n := 68) (rs := [.cell 2 49, .tmp 3]) Tryz.func59 fun w0 S0 => ?_
 refine wq rfl (qb rfl (qz DG rfl (qa rfl (Ac (wp rfl (qL CO BU rfl ?_))))))
 refine BD h fun v1 a1 h => Aw [] (Ep N p0 v1 a1) ZH rfl (qa rfl (Ac (wq rfl (qm rfl (BA rfl (Ac ?_))))))
 refine Ba h (fun h => ?_) fun h => ?_
 ·refine wq rfl (Bk DG JL rfl (qm rfl (qs AW rfl (qe rfl ?_))))
  obtain rfl := sj h
  refine Ae ((Aq 2 0 2001 1 _ rfl rfl rfl rfl).trans ((Aq 2 1 2002 1 _ rfl rfl rfl rfl).trans ((Aq 2 2 2003 1 _ rfl rfl rfl rfl).trans (sm [(1000, 2001), (1001, 2002), (1002, 2003)] [(2, oD (.ptr 2 0)), (3, iD v1)] [(2, .box [.own 1000, .own 1001, .own 1002]), (1000, .vec 1 ((([] : List Int)).map Ak)), (1001, .vec 1 ((([] : List Int)).map Ak)), (1002, .vec 1 ((([] : List Int)).map DL))] rfl rfl)))) (Ar ?_)
  exact ⟨⟨[_, _], ⟨.cellN _ _ _ _ _ _ _ rfl rfl Bn AW rfl rfl (JG rfl), tm⟩, rfl⟩, ⟨rfl, rfl, rfl, tv⟩⟩
 ·refine Ai (wq rfl (qz DG rfl (Ac (wp rfl (qe rfl ?_)))))
  refine AC (L := Co N p0) h (fun v3 => mk [(1, oD (.ptr 1 0)), (2, oD (.ptr 2 0)), (5, oD (.ptr 5 0)), (6, iD v3.2.2)] [(1, .box (Ah p0)), (2, .box [.pure (.nil0), .pure (.nil0), .pure (.nil0)]), (5, .box [.own 2004, .own 2005, .pure (.nil0)]), (2004, .vec 1 (v3.1.map Ak)), (2005, .vec 1 (v3.2.1.map Ak))]) (fun v4 => mk [(1, oD (.ptr 1 0)), (2, oD (.ptr 2 0)), (5, oD (.ptr 5 0))] [(1, .box (Ah p0)), (2, .box [.pure (.nil0), .pure (.nil0), .pure (.nil0)]), (5, .box [.own 2006, .own 2007, .pure (.nil0)]), (2006, .vec 1 (v4.1.map Ak)), (2007, .vec 1 (v4.2.map Ak))]) (fun _ _ => rfl) ((Aq 5 0 2008 1 _ rfl rfl rfl rfl).trans ((Aq 5 1 2009 1 _ rfl rfl rfl rfl).trans (sm [(2004, 2008), (2005, 2009)] _ _ rfl rfl))) (fun j3 n3 v3 h => ?_) (fun v4 s h hs => ?_)
  ·unfold Co at h
   refine wp rfl (qm rfl (qf Bb rfl (ql A7 rfl (AI Au rfl (AY rfl (Ac ?_))))))
   refine Ba h (fun h => ?_) fun h => ?_
   ·refine Ai (AL (AJ (wq rfl (qf Dd rfl (ql A7 rfl (qf FH rfl (ql A7 rfl (qm rfl ?_))))))))
    refine BJ h fun v6 a6 b6 h => qi Au CK a6 (Af b6) rfl (qk B1 rfl (Dg Au CK I6 rfl ?_))
    refine FD h fun c7 h => Cu (f := Ak) Au Au CK Ki I6 c7 rfl (qf Dd rfl (qs Ig rfl (AM (by kernel_rfl) (Ag Av rfl (qf BK rfl (ql A7 rfl (Dg Au CK I6 rfl ?_)))))))
    refine FD h fun c8 h => Cu (f := Ak) Au Au CK Ki I6 c8 rfl (qf BK rfl (qs Ig rfl (Ac (Ag Av rfl (qm rfl (A0 rfl (qe rfl ?_)))))))
    exact sn [(2004, 30), (2005, 35)] h
   ·refine AU ?_
    exact sn [(2006, 2004), (2007, 2005)] h
  ·refine Ae hs (wp rfl (qe rfl ?_))
   refine AC (L := Bo N p0) h (fun v9 => mk [(1, oD (.ptr 1 0)), (2, oD (.ptr 2 0)), (5, oD (.ptr 5 0)), (7, iD v9.2)] [(1, .box (Ah p0)), (2, .box [.pure (.nil0), .pure (.nil0), .pure (.nil0)]), (5, .box [.own 2010, .own 2011, .own 2012]), (2010, .vec 1 (v4.1.map Ak)), (2011, .vec 1 (v4.2.map Ak)), (2012, .vec 1 (v9.1.map DL))]) (fun v10 => mk [(2, oD (.ptr 2 0)), (5, oD (.ptr 5 0))] [(2, .box [.pure (.nil0), .pure (.nil0), .pure (.nil0)]), (5, .box [.own 2013, .own 2014, .own 2015]), (2013, .vec 1 (v4.1.map Ak)), (2014, .vec 1 (v4.2.map Ak)), (2015, .vec 1 (v10.map DL))]) (fun _ _ => rfl) ((Aq 5 2 2019 1 _ rfl rfl rfl rfl).trans (sm [(2010, 2006), (2011, 2007), (2012, 2019)] _ _ rfl rfl)) (fun j9 n9 v9 h => ?_) (fun v10 s h hs => ?_)
   ·unfold Bo at h
    refine wp rfl (qm rfl (qf Cj rfl (ql Hp rfl (AI DD rfl (AY rfl (Ac ?_))))))
    refine Ba h (fun h => ?_) fun h => ?_
    ·refine Ai (AL (AJ (wq rfl (qe rfl ?_))))
     refine AS h (fun v12 => mk [(1, oD (.ptr 1 0)), (2, oD (.ptr 2 0)), (5, oD (.ptr 5 0)), (7, iD v9.2), (8, pD (.val (.int .u8 v12)))] [(1, .box (Ah p0)), (2, .box [.pure (.nil0), .pure (.nil0), .pure (.nil0)]), (5, .box [.own 2016, .own 2017, .own 2018]), (2016, .vec 1 (v4.1.map Ak)), (2017, .vec 1 (v4.2.map Ak)), (2018, .vec 1 (v9.1.map DL))]) (fun j12 h => ?_) (fun v12 h => ?_)
     ·refine wq rfl (qf Cj rfl (ql Hp rfl (qm rfl ?_)))
      refine BJ h fun v13 a13 b13 h => qi DD Du a13 (Af b13) rfl (qK Ha Du rfl ?_)
      refine BD h fun v14 a14 h => Aw [] (CD N v13 v14 a14) RX rfl (Ac ?_)
      refine Ba h (fun h => ?_) fun h => ?_
      ·refine Ag Av rfl (qf FH rfl (ql A7 rfl (qf Cj rfl (ql Hp rfl (qm rfl ?_)))))
       refine BJ h fun v16 a16 b16 h => qi DD Du a16 (Af b16) rfl (qg Di rfl (qk B1 rfl ?_))
       refine BJ h fun v17 a17 b17 h => qi Au CK a17 (Af b17) rfl (qk B1 rfl ?_)
       refine FD h fun c18 h => Jo rfl c18 (qa rfl (AM (by kernel_rfl) ?_))
       exact sn [(2016, 2010), (2017, 2011), (2018, 2012)] h
      ·refine Ai ?_
       exact sn [(2016, 2010), (2017, 2011), (2018, 2012)] h
     ·refine Ag Av rfl (qf CW rfl (ql HO rfl (qm rfl (Dg DB EA NB rfl ?_))))
      refine FD h fun c19 h => Cu (f := DL) DB DB EA Qg NB c19 rfl (qf CW rfl (qs fq rfl (Ac (Ag Av rfl (qm rfl (A0 rfl (qe rfl ?_)))))))
      exact sn [(2010, 2016), (2011, 2017), (2012, 65)] h
    ·refine AU ?_
     exact sn [(2013, 2010), (2014, 2011), (2015, 2012)] h
   ·refine Ae hs (wq rfl (qL Bn AW rfl (qs AW rfl (qe rfl ?_))))
    obtain rfl := sj h
    refine Ae (sm [(1000, 2013), (1001, 2014), (1002, 2015)] [(2, oD (.ptr 2 0)), (3, iD 0)] [(2, .box [.own 1000, .own 1001, .own 1002]), (1000, .vec 1 (v4.1.map Ak)), (1001, .vec 1 (v4.2.map Ak)), (1002, .vec 1 (v10.map DL))] rfl rfl) (Ar ?_)
    exact ⟨⟨[_, _], ⟨.cellN _ _ _ _ _ _ _ rfl rfl Bn AW rfl rfl (JG rfl), tm⟩, rfl⟩, ⟨rfl, rfl, rfl, tv⟩⟩
theorem LV (N : Nat) (p0 : Ab) (r : Ab) (h : EI N p0 = some r) : An zA0 131 [.e (.agg (AE p0))] [(1, r.fD.map Ak), (1, r.fB.map Ak), (1, r.fE.map DL)] (.e (.agg [.own 0, .own 1, .own 2])) := by
 unfold EI at h
 refine cw (n := 16) (rs := [.cell 2 49]) Tryz.func131 fun w0 S0 => ?_
 refine wq rfl (qb rfl (qz DG rfl (Ac (wq rfl (Dg Au CK I6 rfl (qf Dd rfl (ql A7 rfl ?_)))))))
 refine FD h fun c1 h => IC (f := Ak) Au Au CK Ki I6 (fun _ => rfl) c1 rfl (Dg Au CK I6 rfl (qf BK rfl (ql A7 rfl ?_)))
 refine FD h fun c2 h => IC (f := Ak) Au Au CK Ki I6 (fun _ => rfl) c2 rfl (Dg DB EA NB rfl (qf CW rfl (ql HO rfl ?_)))
 refine FD h fun c3 h => IC (f := DL) DB DB EA Qg NB (fun _ => rfl) c3 rfl (Bk DG JL rfl (qs AW rfl (AM (by kernel_rfl) ?_)))
 obtain rfl := sj h
 refine Ae (sm [(1000, 6), (1001, 10), (1002, 14)] [(2, oD (.ptr 2 0))] [(2, .box [.own 1000, .own 1001, .own 1002]), (1000, .vec 1 (((([] : List Int)) ++ p0.fD).map Ak)), (1001, .vec 1 (((([] : List Int)) ++ p0.fB).map Ak)), (1002, .vec 1 (((([] : List Int)) ++ p0.fE).map DL))] rfl rfl) (Ar ?_)
 exact ⟨⟨[_], ⟨.cellN _ _ _ _ _ _ _ rfl rfl Bn AW rfl rfl (JG rfl), tv⟩, rfl⟩, ⟨rfl, rfl, rfl, tv⟩⟩
theorem Np (N : Nat) (p0 : Ab) (r : (List Ab)) (h : EN N p0 = some r) : An zA0 93 [.e (.agg (AE p0))] [(3, r.map AV)] (oD (.own 0)) := by
 unfold EN at h
 refine cw (n := 62) (rs := [.tmp 2]) Tryz.func93 fun w0 S0 => ?_
 refine wq rfl (qb rfl (qa rfl (Ac (wq rfl (qa rfl (Ac (wp rfl (qe rfl ?_))))))))
 refine AC (L := CU N p0) h (fun v1 => mk [(1, oD (.ptr 1 0)), (3, iD v1.1), (4, iD v1.2)] [(1, .box (AE p0))]) (fun v2 => mk [(1, oD (.ptr 1 0)), (3, iD v2)] [(1, .box (AE p0))]) (fun _ _ => rfl) (sm [] _ _ rfl rfl) (fun j1 n1 v1 h => ?_) (fun v2 s h hs => ?_)
 ·unfold CU at h
  refine wp rfl (qm rfl (qf BK rfl (ql A7 rfl (AI Au rfl (AY rfl (Ac ?_))))))
  refine Ba h (fun h => ?_) fun h => ?_
  ·refine Ai ?_
   refine AS h (fun v4 => mk [(1, oD (.ptr 1 0)), (3, iD v4), (4, iD v1.2)] [(1, .box (AE p0))]) (fun j4 h => ?_) (fun v4 h => ?_)
   ·refine AJ (wq rfl (qf BK rfl (ql A7 rfl (qm rfl ?_))))
    refine BJ h fun v5 a5 b5 h => qi Au CK a5 (Af b5) rfl (qk B1 rfl (EF rfl (Ac ?_)))
    refine Ba h (fun h => ?_) fun h => ?_
    ·refine Ag Av rfl (qm rfl (A0 rfl (qe rfl ?_)))
     exact sn [] h
    ·refine Ai ?_
     exact sn [] h
   ·refine Ag Av rfl (qm rfl (A0 rfl (qe rfl ?_)))
    exact sn [] h
  ·refine AU ?_
   exact sn [] h
 ·refine Ae hs (wq rfl (qa rfl (Ac (wp rfl (qe rfl ?_)))))
  refine AC (L := BG N p0 v2) h (fun v7 => mk [(1, oD (.ptr 1 0)), (3, iD v2), (5, oD (.own 2001)), (6, iD v7.2)] [(1, .box (AE p0)), (2001, .vec 3 (v7.1.map AV))]) (fun v8 => mk [(5, oD (.own 2002))] [(2002, .vec 3 (v8.map AV))]) (fun _ _ => rfl) ((A9 5 2022 3 rfl rfl rfl).trans (sm [(2001, 2022)] _ _ rfl rfl)) (fun j7 n7 v7 h => ?_) (fun v8 s h hs => ?_)
  ·unfold BG at h
   refine wp rfl (qw 2 rfl ?_)
   refine FD h fun c9 h => Jo rfl c9 (AY rfl (Ac ?_))
   refine Ba h (fun h => ?_) fun h => ?_
   ·refine Ai (AL (AJ (wq rfl (qL Bn AW rfl ?_))))
    refine BD h fun v11 a11 h => Aw [2003, 2004, 2005] (LV N p0 v11 a11) cX rfl (qz DG rfl (qs AW rfl (Ac (wq rfl (qa rfl (Ac (wp rfl (qe rfl ?_))))))))
    refine AC (L := B4 N p0 v7) h (fun v12 => mk [(1, oD (.ptr 1 0)), (3, iD v2), (5, oD (.own 2009)), (6, iD v7.2), (7, oD (.ptr 7 0)), (8, iD v12.2.1), (9, iD v12.2.2)] [(1, .box (AE p0)), (7, .box [.own 2006, .own 2007, .own 2008]), (2006, .vec 1 (v11.fD.map Ak)), (2007, .vec 1 (v12.1.map Ak)), (2008, .vec 1 (v11.fE.map DL)), (2009, .vec 3 (v7.1.map AV))]) (fun v13 => mk [(1, oD (.ptr 1 0)), (3, iD v2), (5, oD (.own 2013)), (6, iD v7.2), (7, oD (.ptr 7 0))] [(1, .box (AE p0)), (7, .box [.own 2010, .own 2011, .own 2012]), (2010, .vec 1 (v11.fD.map Ak)), (2011, .vec 1 (v13.map Ak)), (2012, .vec 1 (v11.fE.map DL)), (2013, .vec 3 (v7.1.map AV))]) (fun _ _ => rfl) (sm [(2006, 2003), (2007, 2004), (2008, 2005), (2009, 2001)] _ _ rfl rfl) (fun j12 n12 v12 h => ?_) (fun v13 s h hs => ?_)
    ·unfold B4 at h
     refine wp rfl (qm rfl (qf BK rfl (ql A7 rfl (AI Au rfl (AY rfl (Ac ?_))))))
     refine Ba h (fun h => ?_) fun h => ?_
     ·refine Ai ?_
      refine AS h (fun v15 => mk [(1, oD (.ptr 1 0)), (3, iD v2), (5, oD (.own 2017)), (6, iD v7.2), (7, oD (.ptr 7 0)), (8, iD v15.2), (9, iD v12.2.2)] [(1, .box (AE p0)), (7, .box [.own 2014, .own 2015, .own 2016]), (2014, .vec 1 (v11.fD.map Ak)), (2015, .vec 1 (v15.1.map Ak)), (2016, .vec 1 (v11.fE.map DL)), (2017, .vec 3 (v7.1.map AV))]) (fun j15 h => ?_) (fun v15 h => ?_)
      ·refine AJ (wp rfl (qf BK rfl (ql A7 rfl (qm rfl ?_))))
       refine BJ h fun v16 a16 b16 h => qi Au CK a16 (Af b16) rfl (qk B1 rfl (AY rfl (Ac ?_)))
       refine Ba h (fun h => ?_) fun h => ?_
       ·refine AU ?_
        exact sn [(2014, 2006), (2015, 2007), (2016, 2008), (2017, 2009)] h
       ·refine Ai ?_
        refine AS h (fun v18 => mk [(1, oD (.ptr 1 0)), (3, iD v2), (5, oD (.own 2021)), (6, iD v7.2), (7, oD (.ptr 7 0)), (8, iD v12.2.1), (9, iD v12.2.2)] [(1, .box (AE p0)), (7, .box [.own 2018, .own 2019, .own 2020]), (2018, .vec 1 (v11.fD.map Ak)), (2019, .vec 1 (v18.map Ak)), (2020, .vec 1 (v11.fE.map DL)), (2021, .vec 3 (v7.1.map AV))]) (fun j18 h => ?_) (fun v18 h => ?_)
        ·refine wq rfl (qw 2 rfl ?_)
         refine FD h fun c19 h => GR rfl c19 (MY rfl (by decide) (Cf rfl (Ac ?_)))
         refine Ba h (fun h => ?_) fun h => ?_
         ·refine Ag Av rfl (qf BK rfl (ql A7 rfl (qm rfl ?_)))
          refine BJ h fun v21 a21 b21 h => qI Au CK a21 (Af b21) rfl ?_
          refine DM rfl rfl rfl rfl (Af b21) rfl CK rfl (Jw rfl) (Dx Ak v12.1 _ ((-1))) ?_
          refine Ac ?_
          exact sn [(2018, 2006), (2019, 2007), (2020, 2008), (2021, 2009)] h
         ·refine Ai ?_
          exact sn [(2018, 2006), (2019, 2007), (2020, 2008), (2021, 2009)] h
        ·refine Ag Av rfl (qm rfl (A0 rfl (qe rfl ?_)))
         exact sn [(2014, 2018), (2015, 2019), (2016, 2020), (2017, 2021)] h
      ·refine Ag Av rfl (qm rfl (A0 rfl (qe rfl ?_)))
       exact sn [(2006, 2014), (2007, 2015), (2008, 2016), (2009, 2017)] h
     ·refine AU ?_
      exact sn [(2010, 2006), (2011, 2007), (2012, 2008), (2013, 2009)] h
    ·refine Ae hs (Ag Av rfl (qm rfl (qL Bn AW rfl (CE (A4 2010 _ _ rfl rfl) (CE (A4 2011 _ _ rfl rfl) (CE (A4 2012 _ _ rfl rfl) (Dg D4 AW DG rfl ?_)))))))
     refine FD h fun c22 h => Cu (f := AV) D4 D4 AW Ro DG c22 rfl (qa rfl (Ac (Ag Av rfl (qm rfl (A0 rfl (qe rfl ?_))))))
     exact sn [(2001, 60)] h
   ·refine AU ?_
    exact sn [(2002, 2001)] h
  ·refine Ae hs (wq rfl (qm rfl (qe rfl ?_)))
   obtain rfl := sj h
   refine Ae (sm [(1000, 2002)] [(2, oD (.own 1000))] [(1000, .vec 3 (v8.map AV))] rfl rfl) (Ar ?_)
   exact ⟨⟨[_], tm, rfl⟩, ⟨rfl, tv⟩⟩
theorem EH (N : Nat) (p0 : Ab) (p1 : Int) (r : Int) (h : B5 N p0 p1 = some r) : An zA0 96 [.e (.agg (AE p0)), iD p1] [] (pD (.val (.int .u8 r))) := by
 unfold B5 at h
 refine cw (n := 27) (rs := [.tmp 4]) Tryz.func96 fun w0 S0 => ?_
 refine wq rfl (qb rfl (qa rfl (Ac (wq rfl (qf Dd rfl (ql A7 rfl (qm rfl ?_)))))))
 refine BJ h fun v1 a1 b1 h => qi Au CK a1 (Af b1) rfl (qk B1 rfl ?_)
 refine FD h fun c2 h => Jo rfl c2 (qe rfl ?_)
 refine AS h (fun v3 => mk [(5, pD (.val (.int .u8 v3)))] []) (fun j3 h => ?_) (fun v3 h => ?_)
 ·refine wq rfl (qf BK rfl (ql A7 rfl (qm rfl ?_)))
  refine BJ h fun v4 a4 b4 h => qi Au CK a4 (Af b4) rfl (qk B1 rfl (EF rfl (Ac ?_)))
  refine Ba h (fun h => ?_) fun h => ?_
  ·refine Ag Av rfl (qm rfl (qf BK rfl (ql A7 rfl (qm rfl ?_))))
   refine BJ h fun v6 a6 b6 h => qi Au CK a6 (Af b6) rfl (qk B1 rfl ?_)
   refine FD h fun c7 h => Jo rfl c7 (W7 rfl (qe rfl ?_))
   exact sn [] h
  ·refine Ai ?_
   exact sn [] h
 ·refine wq rfl (qm rfl (qe rfl ?_))
  obtain rfl := sj h
  refine Ae (sm [] [(4, pD (.val (.int .u8 v3)))] [] rfl rfl) (Ar ?_)
  exact ⟨⟨[_], tm, rfl⟩, tv⟩
theorem GZ (N : Nat) (p0 : Int) (p1 : Int) (r : Bool) (h : CM N p0 p1 = some r) : An zA0 97 [pD (.val (.int .u8 p0)), iD p1] [] (bD r) := by
 unfold CM at h
 refine cw (n := 10) (rs := [.tmp 4]) Tryz.func97 fun w0 S0 => ?_
 refine wq rfl (qa rfl (Ac (wq rfl (qw 2 rfl ?_))))
 refine FD h fun c1 h => GR rfl c1 (IG rfl (Cf rfl (qe rfl ?_)))
 obtain rfl := sj h
 refine Ae (sm [] [(4, bD (((AK .u8 ((A2 .u8 p0 p1)) 1) == 1)))] [] rfl rfl) (Ar ?_)
 exact ⟨⟨[_], tm, rfl⟩, tv⟩
theorem MK (N : Nat) (p0 : Aa) (p1 : Ab) (r : (List Ap)) (h : E2 N p0 p1 = some r) : An zA0 132 [.e (.agg (Ah p0)), .e (.agg (AE p1))] [(3, r.map A6)] (oD (.own 0)) := by
 unfold E2 at h
 refine cw (n := 111) (rs := [.tmp 4]) Tryz.func132 fun w0 S0 => ?_
 refine wq rfl (qb rfl (qb rfl (qa rfl (Ac (wq rfl (qa rfl (Ac (wp rfl (qe rfl ?_)))))))))
 refine AC (L := C1 N p0 p1) h (fun v1 => mk [(2, oD (.ptr 2 0)), (3, oD (.ptr 3 0)), (5, oD (.own 2001)), (6, iD v1.2)] [(2, .box (Ah p0)), (3, .box (AE p1)), (2001, .vec 3 (v1.1.map A6))]) (fun v2 => mk [(5, oD (.own 2002))] [(2002, .vec 3 (v2.map A6))]) (fun _ _ => rfl) ((A9 5 2013 3 rfl rfl rfl).trans (sm [(2001, 2013)] _ _ rfl rfl)) (fun j1 n1 v1 h => ?_) (fun v2 s h hs => ?_)
 ·unfold C1 at h
  refine wp rfl (qm rfl (qf Cj rfl (ql Hp rfl (AI DD rfl (AY rfl (Ac ?_))))))
  refine Ba h (fun h => ?_) fun h => ?_
  ·refine Ai (AL (AJ (wq rfl (qf Cj rfl (ql Hp rfl (qm rfl ?_))))))
   refine BJ h fun v4 a4 b4 h => qi DD Du a4 (Af b4) rfl (qK Ha Du rfl (qz Jl rfl (qs Du rfl (Ac (wq rfl (qL Bn AW rfl (qf Di rfl (ql B1 rfl ?_))))))))
   refine BD h fun v5 a5 h => Aw [] (EH N p1 v4.fF v5 a5) Yo rfl (qe rfl ?_)
   refine AS h (fun v6 => mk [(2, oD (.ptr 2 0)), (3, oD (.ptr 3 0)), (5, oD (.own 2003)), (6, iD v1.2), (7, oD (.ptr 7 0)), (8, pD (.val (.int .u8 v6)))] [(2, .box (Ah p0)), (3, .box (AE p1)), (7, .box (Bg v4)), (2003, .vec 3 (v1.1.map A6))]) (fun j6 h => ?_) (fun v6 h => ?_)
   ·refine wq rfl (qL Ha Du rfl ?_)
    refine BD h fun v7 a7 h => Aw [] (CD N v4 v7 a7) RX rfl (Ac ?_)
    refine Ba h (fun h => ?_) fun h => ?_
    ·refine Ag Av rfl (qf CW rfl (ql HO rfl (qm rfl ?_)))
     refine BJ h fun v9 a9 b9 h => qi DB EA a9 (Af b9) rfl (qk Iy rfl (qe rfl ?_))
     exact sn [(2003, 2001)] h
    ·refine Ai ?_
     exact sn [(2003, 2001)] h
   ·refine wq rfl (qe rfl ?_)
    refine AC (L := BQ N p0 p1 v1 v4 v6) h (fun v10 => mk [(2, oD (.ptr 2 0)), (3, oD (.ptr 3 0)), (5, oD (.own 2004)), (6, iD v1.2), (7, oD (.ptr 7 0)), (8, pD (.val (.int .u8 v6))), (9, iD v10.2)] [(2, .box (Ah p0)), (3, .box (AE p1)), (7, .box (Bg v4)), (2004, .vec 3 (v10.1.map A6))]) (fun v11 => mk [(2, oD (.ptr 2 0)), (3, oD (.ptr 3 0)), (5, oD (.own 2005)), (6, iD v1.2)] [(2, .box (Ah p0)), (3, .box (AE p1)), (2005, .vec 3 (v11.map A6))]) (fun _ _ => rfl) (sm [(2004, 2003)] _ _ rfl rfl) (fun j10 n10 v10 h => ?_) (fun v11 s h hs => ?_)
    ·unfold BQ at h
     refine wp rfl (qm rfl (qf Bb rfl (ql A7 rfl (qf Di rfl (ql B1 rfl ?_)))))
     refine BJ h fun v12 a12 b12 h => qi Au CK a12 (Af b12) rfl (qk B1 rfl (AY rfl (Ac ?_)))
     refine Ba h (fun h => ?_) fun h => ?_
     ·refine Ai ?_
      refine AS h (fun v14 => mk [(2, oD (.ptr 2 0)), (3, oD (.ptr 3 0)), (5, oD (.own 2006)), (6, iD v1.2), (7, oD (.ptr 7 0)), (8, pD (.val (.int .u8 v6))), (9, iD v10.2)] [(2, .box (Ah p0)), (3, .box (AE p1)), (7, .box (Bg v4)), (2006, .vec 3 (v14.map A6))]) (fun j14 h => ?_) (fun v14 h => ?_)
      ·refine AJ (wp rfl (qw 2 rfl ?_))
       refine BD h fun v15 a15 h => Aw [] (GZ N v6 v10.2 v15 a15) YT rfl (Cp rfl (Ac ?_))
       refine Ba h (fun h => ?_) fun h => ?_
       ·refine AU ?_
        exact sn [(2006, 2004)] h
       ·refine Ai (wq rfl (qa rfl (Ac (wp rfl (qe rfl ?_)))))
        refine AC (L := Bt N p0 p1 v1 v4 v10) h (fun v17 => mk [(2, oD (.ptr 2 0)), (3, oD (.ptr 3 0)), (5, oD (.own 2007)), (6, iD v1.2), (7, oD (.ptr 7 0)), (8, pD (.val (.int .u8 v6))), (9, iD v10.2), (10, bD v17.2.1), (11, iD v17.2.2)] [(2, .box (Ah p0)), (3, .box (AE p1)), (7, .box (Bg v4)), (2007, .vec 3 (v17.1.map A6))]) (fun v18 => mk [(2, oD (.ptr 2 0)), (3, oD (.ptr 3 0)), (5, oD (.own 2008)), (6, iD v1.2), (7, oD (.ptr 7 0)), (8, pD (.val (.int .u8 v6))), (9, iD v10.2), (10, bD v18.2)] [(2, .box (Ah p0)), (3, .box (AE p1)), (7, .box (Bg v4)), (2008, .vec 3 (v18.1.map A6))]) (fun _ _ => rfl) (sm [(2007, 2004)] _ _ rfl rfl) (fun j17 n17 v17 h => ?_) (fun v18 s h hs => ?_)
        ·unfold Bt at h
         refine wp rfl (qm rfl (qf Bb rfl (ql A7 rfl (qf HV rfl (ql B1 rfl ?_)))))
         refine BJ h fun v19 a19 b19 h => qi Au CK a19 (Af b19) rfl (qk B1 rfl (AY rfl (Ac ?_)))
         refine Ba h (fun h => ?_) fun h => ?_
         ·refine Ai ?_
          refine AS h (fun v21 => mk [(2, oD (.ptr 2 0)), (3, oD (.ptr 3 0)), (5, oD (.own 2009)), (6, iD v1.2), (7, oD (.ptr 7 0)), (8, pD (.val (.int .u8 v6))), (9, iD v10.2), (10, bD v21.2), (11, iD v17.2.2)] [(2, .box (Ah p0)), (3, .box (AE p1)), (7, .box (Bg v4)), (2009, .vec 3 (v21.1.map A6))]) (fun j21 h => ?_) (fun v21 h => ?_)
          ·refine AJ (wp rfl (qL Bn AW rfl (qf HV rfl (ql B1 rfl ?_))))
           refine BD h fun v22 a22 h => Aw [] (EH N p1 v4.fJ v22 a22) Yo rfl (qm rfl ?_)
           refine BD h fun v23 a23 h => Aw [] (GZ N v22 v17.2.2 v23 a23) YT rfl (Cp rfl (Ac ?_))
           refine Ba h (fun h => ?_) fun h => ?_
           ·refine AU ?_
            exact sn [(2009, 2007)] h
           ·refine Ai ?_
            refine AS h (fun v25 => mk [(2, oD (.ptr 2 0)), (3, oD (.ptr 3 0)), (5, oD (.own 2010)), (6, iD v1.2), (7, oD (.ptr 7 0)), (8, pD (.val (.int .u8 v6))), (9, iD v10.2), (10, bD v25), (11, iD v17.2.2)] [(2, .box (Ah p0)), (3, .box (AE p1)), (7, .box (Bg v4)), (2010, .vec 3 (v17.1.map A6))]) (fun j25 h => ?_) (fun v25 h => ?_)
            ·refine Ag Av rfl (qw 2 rfl ?_)
             refine En 67 h rfl (fun h => ?_) fun h => ?_
             ·refine qw 8 rfl (qp rfl (qe rfl ?_))
              exact sn [(2010, 2007)] h
             ·refine qf Ht rfl (ql IL rfl (qm rfl ?_))
              refine BJ h fun v27 a27 b27 h => qi EL Ka a27 (Af b27) rfl (qk O9 rfl (qm rfl ?_))
              refine BJ h fun v28 a28 b28 h => qi FC PB a28 (Af b28) rfl (qk Uq rfl (qp rfl (qe rfl ?_)))
              exact sn [(2010, 2007)] h
            ·refine AS h (fun v29 => mk [(2, oD (.ptr 2 0)), (3, oD (.ptr 3 0)), (5, oD (.own 2011)), (6, iD v1.2), (7, oD (.ptr 7 0)), (8, pD (.val (.int .u8 v6))), (9, iD v10.2), (10, bD v25), (11, iD v17.2.2), (90, bD v29)] [(2, .box (Ah p0)), (3, .box (AE p1)), (7, .box (Bg v4)), (2011, .vec 3 (v17.1.map A6))]) (fun j29 h => ?_) (fun v29 h => ?_)
             ·refine Ag Av rfl (qf JD rfl (ql Uq rfl (Cp rfl (qm rfl ?_))))
              refine En 80 h rfl (fun h => ?_) fun h => ?_
              ·refine qf Ht rfl (ql IL rfl (qm rfl ?_))
               refine BJ h fun v31 a31 b31 h => qi EL Ka a31 (Af b31) rfl (qk O9 rfl (qm rfl ?_))
               refine BJ h fun v32 a32 b32 h => qi FC PB a32 (Af b32) rfl (qk Uq rfl (Cp rfl (qp rfl (Ac ?_))))
               exact sn [(2011, 2010)] h
              ·refine qw 9 rfl (qp rfl (Ac ?_))
               exact sn [(2011, 2010)] h
             ·refine Ba h (fun h => ?_) fun h => ?_
              ·refine Ag Av rfl (qw 4 rfl (Bk Jr RO rfl (Dg H3 Ja Jr rfl ?_)))
               refine FD h fun c34 h => Cu (f := A6) H3 H3 Ja SJ Jr c34 rfl (qe rfl ?_)
               exact sn [(2009, 97)] h
              ·refine Ai ?_
               exact sn [(2009, 2011)] h
          ·refine Ag Av rfl (qm rfl (A0 rfl (qe rfl ?_)))
           exact sn [(2007, 2009)] h
         ·refine AU ?_
          exact sn [(2008, 2007)] h
        ·refine Ae hs ?_
         refine AS h (fun v35 => mk [(2, oD (.ptr 2 0)), (3, oD (.ptr 3 0)), (5, oD (.own 2012)), (6, iD v1.2), (7, oD (.ptr 7 0)), (8, pD (.val (.int .u8 v6))), (9, iD v10.2), (103, bD v35)] [(2, .box (Ah p0)), (3, .box (AE p1)), (7, .box (Bg v4)), (2012, .vec 3 (v18.1.map A6))]) (fun j35 h => ?_) (fun v35 h => ?_)
         ·refine Ag Av rfl (qf JD rfl (ql Uq rfl (qm rfl ?_)))
          refine En 100 h rfl (fun h => ?_) fun h => ?_
          ·refine qm rfl (Cp rfl (qp rfl (Ac ?_)))
           exact sn [(2012, 2008)] h
          ·refine qw 2 rfl (qp rfl (Ac ?_))
           exact sn [(2012, 2008)] h
         ·refine Ba h (fun h => ?_) fun h => ?_
          ·refine Ag Av rfl (qw 3 rfl (Bk Jr RO rfl (Dg H3 Ja Jr rfl ?_)))
           refine FD h fun c38 h => Cu (f := A6) H3 H3 Ja SJ Jr c38 rfl (qe rfl ?_)
           exact sn [(2006, 109)] h
          ·refine Ai ?_
           exact sn [(2006, 2012)] h
      ·refine Ag Av rfl (qm rfl (A0 rfl (qe rfl ?_)))
       exact sn [(2004, 2006)] h
     ·refine AU ?_
      exact sn [(2005, 2004)] h
    ·refine Ae hs (Ag Av rfl (qm rfl (A0 rfl (qe rfl ?_))))
     exact sn [(2001, 2005)] h
  ·refine AU ?_
   exact sn [(2002, 2001)] h
 ·refine Ae hs (wq rfl (qm rfl (qe rfl ?_)))
  obtain rfl := sj h
  refine Ae (sm [(1000, 2002)] [(4, oD (.own 1000))] [(1000, .vec 3 (v2.map A6))] rfl rfl) (Ar ?_)
  exact ⟨⟨[_], tm, rfl⟩, ⟨rfl, tv⟩⟩
theorem Md (N : Nat) (p0 : Aa) (p1 : Ab) (r : Bool) (h : EK N p0 p1 = some r) : An zA0 94 [.e (.agg (Ah p0)), .e (.agg (AE p1))] [] (bD r) := by
 unfold EK at h
 refine cw (n := 10) (rs := [.tmp 4]) Tryz.func94 fun w0 S0 => ?_
 refine wq rfl (qb rfl (qb rfl (qa rfl (Ac (wq rfl (qL CO BU rfl (qL Bn AW rfl ?_)))))))
 refine BD h fun v1 a1 h => Aw [2001] (MK N p0 p1 v1 a1) cb rfl (Et H3 rfl (Cf rfl (qe rfl ?_)))
 obtain rfl := sj h
 refine Ae (sm [] [(4, bD (((v1.length : Int) == 0)))] [] rfl rfl) (Ar ?_)
 exact ⟨⟨[_], tm, rfl⟩, tv⟩
theorem Fm (N : Nat) (p0 : Aa) (p1 : Ab) (r : Bool) (h : Cm N p0 p1 = some r) : An zA0 60 [.e (.agg (Ah p0)), .e (.agg (AE p1))] [] (bD r) := by
 unfold Cm at h
 refine cw (n := 22) (rs := [.tmp 4]) Tryz.func60 fun w0 S0 => ?_
 refine wq rfl (qb rfl (qb rfl (qa rfl (Ac (wq rfl (qL Bn AW rfl ?_))))))
 refine BD h fun v1 a1 h => Aw [2001] (Np N p1 v1 a1) fc rfl (qa rfl (Ac (wp rfl (qe rfl ?_))))
 refine AC (L := Cg N p0 v1) h (fun v2 => mk [(2, oD (.ptr 2 0)), (5, oD (.own 2002)), (6, iD v2)] [(2, .box (Ah p0)), (2002, .vec 3 (v1.map AV))]) (fun v3 => mk [] []) (fun _ _ => rfl) (sm [(2002, 2001)] _ _ rfl rfl) (fun j2 n2 v2 h => ?_) (fun v3 s h hs => ?_)
 ·unfold Cg at h
  refine wp rfl (qw 2 rfl (Et D4 rfl (AY rfl (Ac ?_))))
  refine Ba h (fun h => ?_) fun h => ?_
  ·refine Ai (AL (AJ (wq rfl (qL CO BU rfl (qw 2 rfl ?_)))))
   refine BJ h fun v5 a5 b5 h => qI D4 AW a5 (Af b5) rfl (qJ Bn AW (Af b5) rfl ?_)
   refine BD h fun v6 a6 h => Aw [] (Md N p0 v5 v6 a6) ex rfl (Cp rfl (AM (by kernel_rfl) ?_))
   refine Ba h (fun h => ?_) fun h => ?_
   ·refine wq rfl (qe rfl ?_)
    obtain rfl := sj h
    refine Ae (sm [] [(4, bD false)] [] rfl rfl) (Ar ?_)
    exact ⟨⟨[_], tm, rfl⟩, tv⟩
   ·refine Ai (Ag Av rfl (qm rfl (A0 rfl (qe rfl ?_))))
    exact sn [] h
  ·refine AU ?_
   exact sn [] h
 ·refine Ae hs (wq rfl (qe rfl ?_))
  obtain rfl := sj h
  refine Ae (sm [] [(4, bD true)] [] rfl rfl) (Ar ?_)
  exact ⟨⟨[_], tm, rfl⟩, tv⟩
end Go.Lift
