/- Lemmas for WavesPlansCardSaid, which YtncnphcfgojgmaaGreatDoorFinV9 proves. -/
import Derived.WalkKit
import Derived.Orders
import Derived.Below
import Derived.Lib.LaidTab
import Derived.KernelRfl
namespace Go.Lift
open Option renaming bind_some → oS
open List renaming mem_of_getElem? → lM
open Go.RowKit
inductive T where
 | val (v : Value)
 | nil0
 | sl (rows : List (List T))
def Gt : Value → Bool
 | .agg _ => false
 | .tuple _ => false
 | _ => true
def Au (arr : Array Value) (k : Nat) : Value := arr[k]?.getD undef
theorem I8 {arr : Array Value} {k : Nat} (h : k < arr.size) : arr[k]? = some (Au arr k) := by
 simp [Au, h]
inductive C1 (w : World) (S : Nat → Prop) : Value → T → Prop where
 | val (v : Value) (h : Gt v = true) : C1 w S v (.val v)
 | nil0 (a : Option Addr) : C1 w S (.slice a 0 0) .nil0
 | nil (a : Option Addr) (cap : Nat) : C1 w S (.slice a 0 cap) (.sl [])
 | sl (β off cap e : Nat) (arr : Array Value) (el : TypeId) (fz : Nat × Nat) (rows : List (List T))
   (hS : S β) (hb : w.heap[β]? = some (.cells arr el fz)) (hcap : rows.length ≤ cap) (hsz : off + rows.length * e ≤ arr.size)
   (hrow : ∀ (i : Nat) (row : List T), rows[i]? = some row → row.length = e)
   (hcell : ∀ (i : Nat) (row : List T) (j : Nat) (t : T), rows[i]? = some row → row[j]? = some t → C1 w S (Au arr (off + i * e + j)) t) :
   C1 w S (.slice (some ⟨β, off, none⟩) rows.length cap) (.sl rows)
theorem C1.mono {w w' : World} {S S' : Nat → Prop} {v : Value} {t : T} (h : C1 w S v t)
  (hw : ∀ β, S β → w'.heap[β]? = w.heap[β]?) (hS : ∀ β, S β → S' β) : C1 w' S' v t := by
 induction h with
 | val v h => exact .val v h
 | nil0 a => exact .nil0 a
 | nil a cap => exact .nil a cap
 | sl β off cap e arr el fz rows h1 h2 h3 h4 h5 _ ih =>
  exact .sl β off cap e arr el fz rows (hS _ h1) (by rw [hw _ h1]; exact h2) h3 h4 h5 ih
theorem C1.one {w : World} {S : Nat → Prop} {v : Value} {t : T} (h : C1 w S v t) : Gt v = true := by
 cases h <;> first | assumption | rfl
inductive Ow where
 | s
 | x (e : Nat) (cols : List Ow)
inductive P0 (w : World) (S : Nat → Prop) : Ow → (Nat → Prop) → Value → T → Prop where
 | s {R : Nat → Prop} {v : Value} {t : T} (h : C1 w S v t) : P0 w S .s R v t
 | nil {R : Nat → Prop} (a : Option Addr) (e : Nat) (cols : List Ow) : P0 w S (.x e cols) R (.slice a 0 0) (.sl [])
 | sl {R : Nat → Prop} (β cap e : Nat) (cols : List Ow) (arr : Array Value) (el : TypeId) (rows : List (List T)) (Rf : Nat → Nat → Nat → Prop)
   (hb : w.heap[β]? = some (.cells arr el (0, 0))) (hcap : rows.length ≤ cap) (hsz : arr.size = cap * e)
   (hrow : ∀ (i : Nat) (row : List T), rows[i]? = some row → row.length = e)
   (hcell : ∀ (i : Nat) (row : List T) (j : Nat) (t : T), rows[i]? = some row → row[j]? = some t → P0 w S (cols.getD j .s) (Rf i j) (Au arr (i * e + j)) t)
   (hβ : R β) (hR : ∀ i j γ, Rf i j γ → R γ) (hn : ∀ i j, ¬ Rf i j β) (hd : ∀ i j i' j' γ, Rf i j γ → Rf i' j' γ → i = i' ∧ j = j') :
   P0 w S (.x e cols) R (.slice (some ⟨β, 0, none⟩) rows.length cap) (.sl rows)
theorem P0.mono {w w' : World} {S S' : Nat → Prop} {o : Ow} {R R' : Nat → Prop} {v : Value} {t : T} (h : P0 w S o R v t)
  (hw : ∀ β, S β ∨ R β → w'.heap[β]? = w.heap[β]?) (hS : ∀ β, S β → S' β) (hR : ∀ β, R β → R' β) : P0 w' S' o R' v t := by
 induction h generalizing R' with
 | s h => exact .s (h.mono (fun β hβ => hw β (.inl hβ)) hS)
 | nil a e cols => exact .nil a e cols
 | sl β cap e cols arr el rows Rf h1 h2 h3 h4 _ h6 h7 h8 h9 ih =>
  exact .sl β cap e cols arr el rows Rf (by rw [hw β (.inr h6)]; exact h1) h2 h3 h4 (fun i row j t hi hj => ih i row j t hi hj (fun γ hγ => hw γ (hγ.imp id (h7 i j γ))) (fun _ h => h)) (hR _ h6) (fun i j γ hγ => hR _ (h7 i j γ hγ)) h8 h9
theorem P0.one {w : World} {S : Nat → Prop} {o : Ow} {R : Nat → Prop} {v : Value} {t : T} (h : P0 w S o R v t) : Gt v = true := by
 cases h with
 | s h => exact h.one
 | _ => rfl
theorem P0.toT {w : World} {S S' : Nat → Prop} {o : Ow} {R : Nat → Prop} {v : Value} {t : T} (h : P0 w S o R v t) (hS : ∀ β, S β → S' β) (hR : ∀ β, R β → S' β) : C1 w S' v t := by
 induction h with
 | s h => exact h.mono (fun _ _ => rfl) hS
 | nil a e cols => exact .nil a 0
 | sl β cap e cols arr el rows Rf h1 h2 h3 h4 _ h6 h7 h8 h9 ih =>
  refine .sl β 0 cap e arr el (0, 0) rows (hR _ h6) h1 h2 (by rw [h3, Nat.zero_add]; exact Nat.mul_le_mul_right e h2) h4 fun i row j t hi hj => ?_
  rw [Nat.zero_add]
  exact ih i row j t hi hj fun γ hγ => hR _ (h7 i j γ hγ)
inductive Gx where
 | tr (t : T)
 | rop (ts : List T)
 | ptr (b k : Nat)
 | own (b : Nat)
 | mref (b : Nat)
inductive C where
 | pure (t : T)
 | own (b : Nat)
 | ptr (b k : Nat)
 | eptr (b e i k : Nat)
 | view (b e lo len : Nat)
 | mref (b : Nat)
 | rop (ts : List T)
 | clo (g : List (Bool × List T) → Option T)
 | any
 | nilq (p : Prop)
 | fnc (f : Nat)
 | cls (f : Nat) (caps : List Gx)
inductive E where
 | one (c : C)
 | agg (cs : List C)
inductive D where
 | e (x : E)
 | tup (xs : List E)
inductive Bg where
 | box (cells : List C)
 | vec (e : Nat) (rows : List (List T))
 | mp (es : List (Value × T))
 | dvec (e : Nat) (cols : List Ow) (rows : List (List T))
 | pvec (n e : Nat) (cols : List Ow) (rows : List (List T))
 | hol (e : Nat) (cols : List Ow) (i k c : Nat) (rows : List (List T))
 | gone
def Gx.names : Gx → List Nat
 | .own b => [b]
 | .ptr b _ => [b]
 | .mref b => [b]
 | _ => []
def DQ : List Gx → List Nat
 | [] => []
 | c :: cs => c.names ++ DQ cs
theorem EI {b : Nat} : ∀ {cs : List Gx}, b ∈ DQ cs ↔ ∃ c, c ∈ cs ∧ b ∈ c.names
 | [] => by simp [DQ]
 | c :: cs => by simp [DQ, EI (cs := cs)]
def C.names : C → List Nat
 | .cls _ caps => DQ caps
 | .own b => [b]
 | .ptr b _ => [b]
 | .eptr b _ _ _ => [b]
 | .view b _ _ _ => [b]
 | .mref b => [b]
 | _ => []
def DZ : List C → List Nat
 | [] => []
 | c :: cs => c.names ++ DZ cs
def E.names : E → List Nat
 | .one c => c.names
 | .agg cs => DZ cs
def L5 : List E → List Nat
 | [] => []
 | x :: xs => x.names ++ L5 xs
def D.names : D → List Nat
 | .e x => x.names
 | .tup xs => L5 xs
def Bg.names : Bg → List Nat
 | .box cs => DZ cs
 | .hol _ _ _ _ c _ => [c]
 | _ => []
def Bg.real : Bg → Bool
 | .gone => false
 | _ => true
theorem AU {b : Nat} : ∀ {cs : List C}, b ∈ DZ cs ↔ ∃ c, c ∈ cs ∧ b ∈ c.names
 | [] => by simp [DZ]
 | c :: cs => by simp [DZ, AU (cs := cs)]
theorem Dv {b : Nat} : ∀ {xs : List E}, b ∈ L5 xs ↔ ∃ x, x ∈ xs ∧ b ∈ x.names
 | [] => by simp [L5]
 | c :: cs => by simp [L5, Dv (xs := cs)]
structure Gh where
 S : Nat → Prop
 loc : Nat → Option Nat
 hd : Nat → Value
 more : Nat → Nat → Prop
def Gh.has (G : Gh) (b β : Nat) : Prop := G.loc b = some β ∨ G.more b β
def Vr (w : World) (S : Nat → Prop) (v : Value) : Bool × List T → Prop
 | (false, ts) => ∃ t, ts = [t] ∧ C1 w S v t
 | (true, ts) => ∃ vs, v = .agg vs ∧ vs.size = ts.length ∧ ∀ (j : Nat) (t : T), ts[j]? = some t → C1 w S (Au vs j) t
structure SO (B : Nat) (w w' : World) : Prop extends Below B w w' where
 drawn : w.drawn ≤ w'.drawn
theorem SO.mono {B B' : Nat} {w w' : World} (h : SO B w w') (hB : B' ≤ B) : SO B' w w' := ⟨h.toBelow.mono hB, h.drawn⟩
def Wf : List Int := [0, 1, 56, 2, 57, 49, 28, 3, 61, 58, 42, 50, 38, 29, 17, 4, 62, 47, 59, 36, 45, 43, 51, 22, 53, 39, 33, 30, 24, 18, 12, 5, 63, 55, 48, 27, 60, 41, 37, 16, 46, 35, 44, 21, 52, 32, 23, 11, 54, 26, 40, 15, 34, 20, 31, 10, 25, 14, 19, 9, 13, 8, 7, 6]
def Vg : List Int := [1, 10, 100, 1000, 10000, 100000, 1000000, 10000000, 100000000, 1000000000, 10000000000, 100000000000, 1000000000000, 10000000000000, 100000000000000, 1000000000000000, 10000000000000000, 100000000000000000, 1000000000000000000, 10000000000000000000]
def LE : List (String × IntKind × List Int) := [("internal/strconv.uint64pow10", .u64, Vg), ("math/bits.deBruijn64tab", .u8, Wf)]
def SQ (P : Program) (w : World) (S : Nat → Prop) : Prop := ∀ x, x ∈ LE → ∀ g, P.globalNamed x.1 = some g → S g ∧ Lib.TabIs P w x.1 x.2.1 x.2.2
theorem SQ.mono {P : Program} {w w' : World} {S S' : Nat → Prop} (h : SQ P w S) (hw : ∀ β, S β → w'.heap[β]? = w.heap[β]?) (hS : ∀ β, S β → S' β) : SQ P w' S' := by
 intro x hx g hg
 obtain ⟨h1, h2⟩ := h x hx g hg
 refine ⟨hS g h1, ?_⟩
 unfold Lib.TabIs World.var? at h2 ⊢
 rw [hg] at h2 ⊢
 rw [oS] at h2 ⊢
 rw [hw g h1]
 exact h2
def Km (P : Program) (w : World) (S : Nat → Prop) (v : Value) (g : List (Bool × List T) → Option T) : Prop :=
 ∃ f caps, v = .func (.func f) #[] caps ∧ (∃ fn, P.funcs[f]? = some fn ∧ fn.body.isSome = true ∧ (fn.name == "runtime.NumGoroutine") = false) ∧
  ∀ (w' : World) (S' : Nat → Prop), (∀ β, S β → S' β) → (∀ β, S β → w'.heap[β]? = w.heap[β]?) → (∀ β, S' β → β < w'.heap.size) → SQ P w' S' →
  ∀ (vs : Array Value) (as : List (Bool × List T)) (r : T), vs.size = as.length → (∀ (j : Nat) (x : Bool × List T), as[j]? = some x → Vr w' S' (Au vs j) x) → g as = some r →
   Calls P f (vs ++ caps) w' fun e w'' => ∃ v' S'', e = .returned v' ∧ SO w'.heap.size w' w'' ∧ (∀ β, S' β → S'' β) ∧ (∀ β, S'' β → S' β ∨ (w'.heap.size ≤ β ∧ β < w''.heap.size)) ∧ C1 w'' S'' v' r
variable (P : Program)
def IL (w : World) (G : Gh) (v : Value) : Gx → Prop
 | .tr t => C1 w G.S v t
 | .own b => v = G.hd b ∧ ∃ a l c, v = .slice a l c
 | .ptr b k => ∃ β, G.loc b = some β ∧ v = .pointer (some ⟨β, k, none⟩)
 | .mref b => ∃ β, G.loc b = some β ∧ v = .map (some β)
 | .rop ts => ∃ β off arr el fz, v = .pointer (some ⟨β, off, none⟩) ∧ G.S β ∧ w.heap[β]? = some (.cells arr el fz) ∧ off + ts.length ≤ arr.size ∧
   ∀ (j : Nat) (t : T), ts[j]? = some t → C1 w G.S (Au arr (off + j)) t
def Ed (w : World) (G : Gh) (v : Value) : C → Prop
 | .cls f caps => ∃ vs, v = .func (.func f) #[] vs ∧ vs.size = caps.length ∧ ∀ (j : Nat) (c : Gx), caps[j]? = some c → IL w G (Au vs j) c
 | .pure t => C1 w G.S v t
 | .own b => v = G.hd b ∧ ∃ a l c, v = .slice a l c
 | .ptr b k => ∃ β, G.loc b = some β ∧ v = .pointer (some ⟨β, k, none⟩)
 | .eptr b e i k => ∃ β, G.loc b = some β ∧ v = .pointer (some ⟨β, i * e + k, none⟩)
 | .view b e lo len => ∃ a n cap p, G.hd b = .slice a n cap ∧ lo + len ≤ cap ∧ v = .slice p len (cap - lo) ∧ (lo < cap → p = a.map fun q => q.add (lo * e))
 | .mref b => ∃ β, G.loc b = some β ∧ v = .map (some β)
 | .rop ts => ∃ β off arr el fz, v = .pointer (some ⟨β, off, none⟩) ∧ G.S β ∧ w.heap[β]? = some (.cells arr el fz) ∧ off + ts.length ≤ arr.size ∧
   ∀ (j : Nat) (t : T), ts[j]? = some t → C1 w G.S (Au arr (off + j)) t
 | .clo g => Km P w G.S v g
 | .any => Gt v = true
 | .nilq p => ∃ b, v = .bool b ∧ (b = true → p)
 | .fnc f => v = .func (.func f) #[] #[]
def Il (w : World) (G : Gh) (v : Value) : E → Prop
 | .one c => Ed P w G v c
 | .agg cs => ∃ vs, v = .agg vs ∧ vs.size = cs.length ∧ ∀ (j : Nat) (c : C), cs[j]? = some c → Ed P w G (Au vs j) c
def F9 (w : World) (G : Gh) (v : Value) : D → Prop
 | .e x => Il P w G v x
 | .tup xs => ∃ vs, v = .tuple vs ∧ vs.size = xs.length ∧ ∀ (j : Nat) (x : E), xs[j]? = some x → Il P w G (Au vs j) x
def EP (w : World) (G : Gh) (b : Nat) : Bg → Prop
 | .box cells => ∃ β arr el, G.loc b = some β ∧ w.heap[β]? = some (.cells arr el (0, 0)) ∧ arr.size = cells.length ∧ ∀ (j : Nat) (c : C), cells[j]? = some c → Ed P w G (Au arr j) c
 | .vec e rows => (∃ a, G.hd b = .slice a 0 0 ∧ rows = [] ∧ G.loc b = none) ∨
   (∃ β cap arr el, G.loc b = some β ∧ G.hd b = .slice (some ⟨β, 0, none⟩) rows.length cap ∧ w.heap[β]? = some (.cells arr el (0, 0)) ∧ rows.length ≤ cap ∧ arr.size = cap * e ∧
    (∀ (i : Nat) (row : List T), rows[i]? = some row → row.length = e) ∧ ∀ (i : Nat) (row : List T) (j : Nat) (t : T), rows[i]? = some row → row[j]? = some t → C1 w G.S (Au arr (i * e + j)) t)
 | .mp es => ∃ β arr clock, G.loc b = some β ∧ w.heap[β]? = some (.map arr clock) ∧ arr.size = es.length ∧ ∀ (i : Nat) (x : Value × T), es[i]? = some x → ∃ m : MapEntry, arr[i]? = some m ∧ m.key = x.1 ∧ C1 w G.S m.val x.2
 | .dvec e cols rows => (∃ a, G.hd b = .slice a 0 0 ∧ rows = [] ∧ G.loc b = none) ∨
   (∃ β cap arr el, ∃ Rf : Nat → Nat → Nat → Prop, G.loc b = some β ∧ G.hd b = .slice (some ⟨β, 0, none⟩) rows.length cap ∧ w.heap[β]? = some (.cells arr el (0, 0)) ∧ rows.length ≤ cap ∧ arr.size = cap * e ∧
    (∀ (i : Nat) (row : List T), rows[i]? = some row → row.length = e) ∧ (∀ (i : Nat) (row : List T) (j : Nat) (t : T), rows[i]? = some row → row[j]? = some t → P0 w G.S (cols.getD j .s) (Rf i j) (Au arr (i * e + j)) t) ∧
    (∀ i j γ, Rf i j γ → G.more b γ) ∧ (∀ i j, ¬ Rf i j β) ∧ ∀ i j i' j' γ, Rf i j γ → Rf i' j' γ → i = i' ∧ j = j')
 | .pvec n e cols rows => n ≤ rows.length ∧
   ((∃ a, G.hd b = .slice a 0 0 ∧ rows = [] ∧ G.loc b = none) ∨
   (∃ β cap arr el, ∃ Rf : Nat → Nat → Nat → Prop, G.loc b = some β ∧ G.hd b = .slice (some ⟨β, 0, none⟩) rows.length cap ∧ w.heap[β]? = some (.cells arr el (0, 0)) ∧ rows.length ≤ cap ∧ arr.size = cap * e ∧
    (∀ (i : Nat) (row : List T), rows[i]? = some row → row.length = e) ∧ (∀ (i : Nat) (row : List T) (j : Nat) (t : T), rows[i]? = some row → row[j]? = some t → P0 w G.S (if i < n then cols.getD j .s else .s) (Rf i j) (Au arr (i * e + j)) t) ∧
    (∀ i j γ, Rf i j γ → G.more b γ) ∧ (∀ i j, ¬ Rf i j β) ∧ ∀ i j i' j' γ, Rf i j γ → Rf i' j' γ → i = i' ∧ j = j'))
 | .hol e cols i0 k0 c rows =>
   (∃ β cap arr el, ∃ Rf : Nat → Nat → Nat → Prop, G.loc b = some β ∧ G.hd b = .slice (some ⟨β, 0, none⟩) rows.length cap ∧ w.heap[β]? = some (.cells arr el (0, 0)) ∧ rows.length ≤ cap ∧ arr.size = cap * e ∧
    (∀ (i : Nat) (row : List T), rows[i]? = some row → row.length = e) ∧ (∀ (i : Nat) (row : List T) (j : Nat) (t : T), rows[i]? = some row → row[j]? = some t → ¬ (i = i0 ∧ j = k0) → P0 w G.S (cols.getD j .s) (Rf i j) (Au arr (i * e + j)) t) ∧
    (∀ i j γ, Rf i j γ → G.more b γ) ∧ (∀ i j, ¬ Rf i j β) ∧ (∀ i j i' j' γ, Rf i j γ → Rf i' j' γ → i = i' ∧ j = j') ∧ Au arr (i0 * e + k0) = G.hd c ∧ (∃ p n q, G.hd c = .slice p n q))
 | .gone => True
variable {P}
theorem Vr.mono {w w' : World} {S S' : Nat → Prop} {v : Value} {x : Bool × List T} (h : Vr w S v x)
  (hw : ∀ β, S β → w'.heap[β]? = w.heap[β]?) (hS : ∀ β, S β → S' β) : Vr w' S' v x := by
 obtain ⟨b, ts⟩ := x
 cases b
 ·obtain ⟨t, e, h⟩ := h; exact ⟨t, e, h.mono hw hS⟩
 ·obtain ⟨vs, e, hs, h⟩ := h; exact ⟨vs, e, hs, fun j t hj => (h j t hj).mono hw hS⟩
theorem Km.mono {w w' : World} {S S' : Nat → Prop} {v : Value} {g : List (Bool × List T) → Option T} (h : Km P w S v g)
  (hw : ∀ β, S β → w'.heap[β]? = w.heap[β]?) (hS : ∀ β, S β → S' β) : Km P w' S' v g := by
 obtain ⟨f, caps, e, hf, h⟩ := h
 exact ⟨f, caps, e, hf, fun w2 S2 h1 h2 h3 => h w2 S2 (fun β hβ => h1 β (hS β hβ)) (fun β hβ => (h2 β (hS β hβ)).trans (hw β hβ)) h3⟩
structure Gh.ext (G G' : Gh) (p : Nat → Prop) : Prop where
 S : ∀ β, G.S β → G'.S β
 loc : ∀ b, p b → G'.loc b = G.loc b
 hd : ∀ b, p b → G'.hd b = G.hd b
 more : ∀ b, p b → G'.more b = G.more b
theorem Gh.ext.has {G G' : Gh} {p : Nat → Prop} (h : G.ext G' p) {b β : Nat} (hb : p b) : G'.has b β ↔ G.has b β := by
 unfold Gh.has; rw [h.loc b hb, h.more b hb]
theorem IL.mono {w w' : World} {G G' : Gh} {p : Nat → Prop} {v : Value} {c : Gx} (h : IL w G v c) (hG : G.ext G' p)
  (hw : ∀ β, G.S β → w'.heap[β]? = w.heap[β]?) (hp : ∀ b, b ∈ c.names → p b) : IL w' G' v c := by
 cases c with
 | tr t => exact C1.mono h hw hG.S
 | own b => exact ⟨by rw [hG.hd b (hp b (by simp [Gx.names]))]; exact h.1, h.2⟩
 | ptr b k => obtain ⟨β, h1, h2⟩ := h; exact ⟨β, by rw [hG.loc b (hp b (by simp [Gx.names]))]; exact h1, h2⟩
 | mref b => obtain ⟨β, h1, h2⟩ := h; exact ⟨β, by rw [hG.loc b (hp b (by simp [Gx.names]))]; exact h1, h2⟩
 | rop ts =>
  obtain ⟨β, off, arr, el, fz, h1, h2, h3, h4, h5⟩ := h
  exact ⟨β, off, arr, el, fz, h1, hG.S _ h2, by rw [hw _ h2]; exact h3, h4, fun j t hj => (h5 j t hj).mono hw hG.S⟩
theorem Ed.mono {w w' : World} {G G' : Gh} {p : Nat → Prop} {v : Value} {c : C} (h : Ed P w G v c) (hG : G.ext G' p)
  (hw : ∀ β, G.S β → w'.heap[β]? = w.heap[β]?) (hp : ∀ b, b ∈ c.names → p b) : Ed P w' G' v c := by
 cases c with
 | pure t => exact C1.mono h hw hG.S
 | own b => exact ⟨by rw [hG.hd b (hp b (by simp [C.names]))]; exact h.1, h.2⟩
 | ptr b k => obtain ⟨β, h1, h2⟩ := h; exact ⟨β, by rw [hG.loc b (hp b (by simp [C.names]))]; exact h1, h2⟩
 | eptr b e i k => obtain ⟨β, h1, h2⟩ := h; exact ⟨β, by rw [hG.loc b (hp b (by simp [C.names]))]; exact h1, h2⟩
 | view b e lo len => obtain ⟨a, n, cap, p, h1, h2⟩ := h; exact ⟨a, n, cap, p, by rw [hG.hd b (hp b (by simp [C.names]))]; exact h1, h2⟩
 | mref b => obtain ⟨β, h1, h2⟩ := h; exact ⟨β, by rw [hG.loc b (hp b (by simp [C.names]))]; exact h1, h2⟩
 | rop ts =>
  obtain ⟨β, off, arr, el, fz, h1, h2, h3, h4, h5⟩ := h
  exact ⟨β, off, arr, el, fz, h1, hG.S _ h2, by rw [hw _ h2]; exact h3, h4, fun j t hj => (h5 j t hj).mono hw hG.S⟩
 | clo g => exact Km.mono h hw hG.S
 | any => exact h
 | nilq p => exact h
 | fnc f => exact h
 | cls f caps =>
  obtain ⟨vs, h1, h2, h3⟩ := h
  exact ⟨vs, h1, h2, fun j c hj => (h3 j c hj).mono hG hw fun b hb => hp b (EI.2 ⟨c, lM hj, hb⟩)⟩
theorem Il.mono {w w' : World} {G G' : Gh} {p : Nat → Prop} {v : Value} {x : E} (h : Il P w G v x) (hG : G.ext G' p)
  (hw : ∀ β, G.S β → w'.heap[β]? = w.heap[β]?) (hp : ∀ b, b ∈ x.names → p b) : Il P w' G' v x := by
 cases x with
 | one c => exact Ed.mono h hG hw hp
 | agg cs =>
  obtain ⟨vs, e, hs, h⟩ := h
  exact ⟨vs, e, hs, fun j c hj => (h j c hj).mono hG hw fun b hb => hp b (AU.2 ⟨c, lM hj, hb⟩)⟩
theorem F9.mono {w w' : World} {G G' : Gh} {p : Nat → Prop} {v : Value} {d : D} (h : F9 P w G v d) (hG : G.ext G' p)
  (hw : ∀ β, G.S β → w'.heap[β]? = w.heap[β]?) (hp : ∀ b, b ∈ d.names → p b) : F9 P w' G' v d := by
 cases d with
 | e x => exact Il.mono h hG hw hp
 | tup xs =>
  obtain ⟨vs, e, hs, h⟩ := h
  exact ⟨vs, e, hs, fun j x hj => (h j x hj).mono hG hw fun b hb => hp b (Dv.2 ⟨x, lM hj, hb⟩)⟩
theorem Ed.one {w : World} {G : Gh} {v : Value} {c : C} (h : Ed P w G v c) : Gt v = true := by
 cases c with
 | pure t => exact C1.one h
 | own b => obtain ⟨_, a, l, c, rfl⟩ := h; rfl
 | ptr b k => obtain ⟨β, _, rfl⟩ := h; rfl
 | eptr b e i k => obtain ⟨β, _, rfl⟩ := h; rfl
 | view b e lo len => obtain ⟨_, _, _, _, _, _, rfl, _⟩ := h; rfl
 | mref b => obtain ⟨β, _, rfl⟩ := h; rfl
 | rop ts => obtain ⟨β, off, arr, el, fz, rfl, _⟩ := h; rfl
 | clo g => obtain ⟨f, caps, rfl, _⟩ := h; rfl
 | any => exact h
 | nilq p => obtain ⟨b, rfl, _⟩ := h; rfl
 | fnc f => cases h; rfl
 | cls f caps => obtain ⟨vs, rfl, _⟩ := h; rfl
theorem EP.mono {w w' : World} {G G' : Gh} {p : Nat → Prop} {b : Nat} {k : Bg} (h : EP P w G b k) (hG : G.ext G' p) (hb : p b)
  (hw : ∀ β, G.S β → w'.heap[β]? = w.heap[β]?) (hbw : ∀ β, k.real = true → G.has b β → w'.heap[β]? = w.heap[β]?) (hp : ∀ c, c ∈ k.names → p c) : EP P w' G' b k := by
 cases k with
 | box cells =>
  obtain ⟨β, arr, el, h1, h2, h3, h4⟩ := h
  exact ⟨β, arr, el, by rw [hG.loc b hb]; exact h1, by rw [hbw β rfl (.inl h1)]; exact h2, h3, fun j c hj => (h4 j c hj).mono hG hw fun x hx => hp x (AU.2 ⟨c, lM hj, hx⟩)⟩
 | vec e rows =>
  rcases h with ⟨a, h1, h2, h3⟩ | ⟨β, cap, arr, el, h0, h1, h2, h3, h4, h5, h6⟩
  ·exact .inl ⟨a, by rw [hG.hd b hb]; exact h1, h2, by rw [hG.loc b hb]; exact h3⟩
  ·exact .inr ⟨β, cap, arr, el, by rw [hG.loc b hb]; exact h0, by rw [hG.hd b hb]; exact h1, by rw [hbw β rfl (.inl h0)]; exact h2, h3, h4, h5, fun i row j t hi hj => (h6 i row j t hi hj).mono hw hG.S⟩
 | mp es =>
  obtain ⟨β, arr, clock, h1, h2, h3, h4⟩ := h
  exact ⟨β, arr, clock, by rw [hG.loc b hb]; exact h1, by rw [hbw β rfl (.inl h1)]; exact h2, h3, fun i x hi => by
   obtain ⟨m, e1, e2, e3⟩ := h4 i x hi
   exact ⟨m, e1, e2, e3.mono hw hG.S⟩⟩
 | dvec e cols rows =>
  rcases h with ⟨a, h1, h2, h3⟩ | ⟨β, cap, arr, el, Rf, h0, h1, h2, h3, h4, h5, h6, h7, h8, h9⟩
  ·exact .inl ⟨a, by rw [hG.hd b hb]; exact h1, h2, by rw [hG.loc b hb]; exact h3⟩
  ·exact .inr ⟨β, cap, arr, el, Rf, by rw [hG.loc b hb]; exact h0, by rw [hG.hd b hb]; exact h1, by rw [hbw β rfl (.inl h0)]; exact h2, h3, h4, h5, fun i row j t hi hj => (h6 i row j t hi hj).mono (fun γ hγ => hγ.elim (hw γ) fun hr => hbw γ rfl (.inr (h7 i j γ hr))) hG.S (fun _ h => h), fun i j γ hγ => by rw [hG.more b hb]; exact h7 i j γ hγ, h8, h9⟩
 | pvec n e cols rows =>
  obtain ⟨hn, h⟩ := h
  refine ⟨hn, ?_⟩
  rcases h with ⟨a, h1, h2, h3⟩ | ⟨β, cap, arr, el, Rf, h0, h1, h2, h3, h4, h5, h6, h7, h8, h9⟩
  ·exact .inl ⟨a, by rw [hG.hd b hb]; exact h1, h2, by rw [hG.loc b hb]; exact h3⟩
  ·exact .inr ⟨β, cap, arr, el, Rf, by rw [hG.loc b hb]; exact h0, by rw [hG.hd b hb]; exact h1, by rw [hbw β rfl (.inl h0)]; exact h2, h3, h4, h5, fun i row j t hi hj => (h6 i row j t hi hj).mono (fun γ hγ => hγ.elim (hw γ) fun hr => hbw γ rfl (.inr (h7 i j γ hr))) hG.S (fun _ h => h), fun i j γ hγ => by rw [hG.more b hb]; exact h7 i j γ hγ, h8, h9⟩
 | hol e cols i0 k0 c rows =>
  obtain ⟨β, cap, arr, el, Rf, h0, h1, h2, h3, h4, h5, h6, h7, h8, h9, h10, h11⟩ := h
  have hc := hG.hd c (hp c (by simp [Bg.names]))
  exact ⟨β, cap, arr, el, Rf, by rw [hG.loc b hb]; exact h0, by rw [hG.hd b hb]; exact h1, by rw [hbw β rfl (.inl h0)]; exact h2, h3, h4, h5, fun i row j t hi hj hne => (h6 i row j t hi hj hne).mono (fun γ hγ => hγ.elim (hw γ) fun hr => hbw γ rfl (.inr (h7 i j γ hr))) hG.S (fun _ h => h), fun i j γ hγ => by rw [hG.more b hb]; exact h7 i j γ hγ, h8, h9, by rw [hc]; exact h10, by rw [hc]; exact h11⟩
 | gone => trivial
structure St where
 env : Nat → Option D
 bx : Nat → Option Bg
structure G7 where
 w0 : World
 S0 : Nat → Prop
 n : Nat
 GL : Gh
def Bs (b : Nat) : Bool := Nat.ble 90000 b && Nat.ble b 90999
def NG (b : Nat) : Bool := Nat.ble 90000 b && Nat.ble b 90899
theorem Mb {b : Nat} (h : NG b = true) : Bs b = true := by
 unfold NG Bs at *
 rw [Bool.and_eq_true] at *
 exact ⟨h.1, Nat.ble_eq_true_of_le (Nat.le_trans (Nat.le_of_ble_eq_true h.2) (by omega))⟩
def Gh.lent (G : Gh) (β : Nat) : Prop := ∃ b, Bs b = true ∧ G.has b β
def G7.L (X : G7) : Nat → Prop := X.GL.lent
structure CL (L : Nat → Prop) (B : Nat) (w w' : World) : Prop where
 os : w'.os = w.os
 tape : w'.tape = w.tape
 output : w'.output = w.output
 size : w.heap.size ≤ w'.heap.size
 drawn : w.drawn ≤ w'.drawn
 block : ∀ k, k < B → ¬ L k → w'.heap[k]? = w.heap[k]?
theorem CL.refl (L : Nat → Prop) (B : Nat) (w : World) : CL L B w w := ⟨rfl, rfl, rfl, Nat.le_refl _, Nat.le_refl _, fun _ _ _ => rfl⟩
theorem CL.trans {L : Nat → Prop} {B : Nat} {a b c : World} (h : CL L B a b) (k : CL L B b c) : CL L B a c :=
 ⟨k.os.trans h.os, k.tape.trans h.tape, k.output.trans h.output, Nat.le_trans h.size k.size, Nat.le_trans h.drawn k.drawn, fun i hi hl => (k.block i hi hl).trans (h.block i hi hl)⟩
theorem CL.of {L : Nat → Prop} {B : Nat} {w w' : World} (h : SO B w w') : CL L B w w' := ⟨h.os, h.tape, h.output, h.size, h.drawn, fun k hk _ => h.block k hk⟩
theorem CL.to {B : Nat} {w w' : World} (h : CL (fun _ => False) B w w') : SO B w w' := ⟨⟨h.os, h.tape, h.output, h.size, fun k hk => h.block k hk (fun h => h)⟩, h.drawn⟩
theorem CL.mono {L : Nat → Prop} {B B' : Nat} {w w' : World} (h : CL L B w w') (hB : B' ≤ B) : CL L B' w w' := ⟨h.os, h.tape, h.output, h.size, h.drawn, fun k hk => h.block k (Nat.lt_of_lt_of_le hk hB)⟩
theorem CL.drew {L : Nat → Prop} {B : Nat} {a w : World} (h : CL L B a w) : CL L B a w.drew := ⟨h.os, h.tape, h.output, h.size, Nat.le_succ_of_le h.drawn, h.block⟩
theorem CL.alloc {L : Nat → Prop} {B : Nat} {a w : World} (h : CL L B a w) (hB : B ≤ w.heap.size) (o : Obj) : CL L B a (w.alloc o) :=
 h.trans (.of ⟨(Below.refl B w).alloc hB o, Nat.le_refl _⟩)
def OT (X : G7) (b β : Nat) : Prop := (Bs b = false → X.w0.heap.size ≤ β) ∧ (X.w0.heap.size ≤ β ∨ X.L β)
theorem OT.new {X : G7} {b β : Nat} (h : X.w0.heap.size ≤ β) : OT X b β := ⟨fun _ => h, .inl h⟩
structure CZ (P : Program) (X : G7) (G : Gh) (st : St) (a : Act) (w : World) : Prop where
 S_lt : ∀ β, G.S β → β < w.heap.size
 S_src : ∀ β, G.S β → X.S0 β ∨ X.w0.heap.size ≤ β
 S_0 : ∀ β, X.S0 β → G.S β
 S0_lt : ∀ β, X.S0 β → β < X.w0.heap.size
 blk : ∀ b k, st.bx b = some k → EP P w G b k
 at_ok : ∀ b k β, st.bx b = some k → k.real = true → G.has b β → OT X b β ∧ β < w.heap.size ∧ ¬ G.S β
 at_inj : ∀ b c k l β, st.bx b = some k → st.bx c = some l → k.real = true → l.real = true → G.has b β → G.has c β → b = c
 env : ∀ s d, st.env s = some d → F9 P w G (Au a.tmps s) d
 live : ∀ s d, st.env s = some d → ∀ b, b ∈ d.names → (st.bx b).isSome = true
 liveB : ∀ b k, st.bx b = some k → ∀ c, c ∈ k.names → (st.bx c).isSome = true
 tsz : a.tmps.size = X.n
 nlt : X.n ≤ 90000
 lent : ∀ b, NG b = true → G.loc b = X.GL.loc b ∧ G.hd b = X.GL.hd b ∧ G.more b = X.GL.more b
 defers : a.defers = []
 below : CL X.L X.w0.heap.size X.w0 w
 gok : SQ P w G.S
def O8 (P : Program) (X : G7) (st : St) (a : Act) (w : World) : Prop := ∃ G, CZ P X G st a w
def T.of (v : Value) : T := match v with
 | .slice none 0 0 => .nil0
 | v => .val v
def opd (env : Nat → Option D) : Operand → Option D
 | .tmp t => env t
 | .const v => if Gt v then some (.e (.one (.pure (.of v)))) else none
 | .func f => some (.e (.one (.fnc f)))
 | _ => none
theorem C1.of {w : World} {S : Nat → Prop} {v : Value} (h : Gt v = true) : C1 w S v (.of v) := by
 unfold T.of; split
 ·exact .nil0 none
 ·exact .val _ h
theorem CZ.opd {X : G7} {G : Gh} {st : St} {a : Act} {w : World} (h : CZ P X G st a w) {x : Operand} {d : D} (hx : opd st.env x = some d) :
  F9 P w G (a.eval x) d := by
 cases x with
 | tmp t => have := h.env t d hx; simpa [Au, Act.eval] using this
 | const v =>
  simp only [Lift.opd] at hx
  split at hx
  ·rename_i hv; cases hx; exact C1.of hv
  ·cases hx
 | global g => cases hx
 | func f => cases hx; rfl
theorem CZ.opd_live {X : G7} {G : Gh} {st : St} {a : Act} {w : World} (h : CZ P X G st a w) {x : Operand} {d : D} (hx : Lift.opd st.env x = some d) :
  ∀ b, b ∈ d.names → (st.bx b).isSome = true := by
 cases x with
 | tmp t => exact h.live t d hx
 | const v =>
  simp only [Lift.opd] at hx
  split at hx
  ·cases hx; intro b hb; simp [D.names, E.names, C.names] at hb
  ·cases hx
 | global g => cases hx
 | func f => cases hx; intro b hb; simp [D.names, E.names, C.names] at hb
end Go.Lift
namespace Go.Lift
open Go.RowKit
variable {P : Program} {X : G7}
def St.put (st : St) (dst : Option Nat) (d : Option D) : St :=
 match dst with
 | some s => { st with env := fun t => if t = s then d else st.env t }
 | none => st
def St.setB (st : St) (b : Nat) (k : Bg) : St := { st with bx := fun c => if c = b then some k else st.bx c }
theorem MB {arr : Array Value} {i j : Nat} {v : Value} (h : i < arr.size) : Au (arr.setIfInBounds i v) j = if j = i then v else Au arr j := by
 unfold Au
 rw [Array.getElem?_setIfInBounds]
 by_cases e : i = j
 ·subst e; simp [h]
 ·rw [if_neg e, if_neg (Ne.symm e)]
theorem CZ.put {G : Gh} {st : St} {a : Act} {w : World} (h : CZ P X G st a w) (dst : Option Nat) (d : Option D) (v : Value)
  (hn : ∀ s, dst = some s → s < X.n) (hd : ∀ d', d = some d' → F9 P w G v d' ∧ ∀ b, b ∈ d'.names → (st.bx b).isSome = true) : CZ P X G (st.put dst d) (a.put dst v) w := by
 cases dst with
 | none => exact h
 | some s =>
  have hs : s < a.tmps.size := by rw [h.tsz]; exact hn s rfl
  refine { h with env := ?_, live := ?_, tsz := ?_, defers := h.defers, blk := h.blk, at_ok := h.at_ok, at_inj := h.at_inj, liveB := h.liveB, nlt := h.nlt, lent := h.lent }
  ·intro s' d' he
   simp only [St.put] at he
   simp only [Act.put, MB hs]
   split at he
   ·rename_i e; rw [if_pos e]; exact (hd d' he).1
   ·rename_i e; rw [if_neg e]; exact h.env s' d' he
  ·intro s' d' he
   simp only [St.put] at he
   split at he
   ·exact (hd d' he).2
   ·exact h.live s' d' he
  ·simp [Act.put, h.tsz]
theorem CZ.frameF {G G' : Gh} {st : St} {bx' : Nat → Option Bg} {a : Act} {w w' : World} (h : CZ P X G st a w)
  (hlive : ∀ b, (st.bx b).isSome = true → (bx' b).isSome = true)
  (hG : G.ext G' (fun b => (st.bx b).isSome = true))
  (hw : ∀ β, G.S β → w'.heap[β]? = w.heap[β]?)
  (hb : ∀ b k, bx' b = some k → (st.bx b = some k ∧ ∀ β, k.real = true → G.has b β → w'.heap[β]? = w.heap[β]?) ∨ (EP P w' G' b k ∧ ∀ c, c ∈ k.names → (bx' c).isSome = true))
  (hat : ∀ b k β, bx' b = some k → k.real = true → G'.has b β → OT X b β ∧ β < w'.heap.size ∧ ¬ G'.S β)
  (hinj : ∀ b c k l β, bx' b = some k → bx' c = some l → k.real = true → l.real = true → G'.has b β → G'.has c β → b = c)
  (hS1 : ∀ β, G'.S β → β < w'.heap.size) (hS2 : ∀ β, G'.S β → X.S0 β ∨ X.w0.heap.size ≤ β)
  (hbel : CL X.L X.w0.heap.size X.w0 w') (hL : ∀ b, NG b = true → G'.loc b = G.loc b ∧ G'.hd b = G.hd b ∧ G'.more b = G.more b) : CZ P X G' { st with bx := bx' } a w' where
 S_lt := hS1
 S_src := hS2
 S_0 := fun β hβ => hG.S β (h.S_0 β hβ)
 S0_lt := h.S0_lt
 blk := fun b k hk => by
  rcases hb b k hk with ⟨h1, h2⟩ | ⟨h1, _⟩
  ·exact (h.blk b k h1).mono hG (by simp [h1]) hw h2 fun c hc => h.liveB b k h1 c hc
  ·exact h1
 at_ok := hat
 at_inj := hinj
 env := fun s d hs => (h.env s d hs).mono hG hw (h.live s d hs)
 live := fun s d hs b hb' => hlive b (h.live s d hs b hb')
 liveB := fun b k hk c hc => by
  rcases hb b k hk with ⟨h1, _⟩ | ⟨_, h2⟩
  ·exact hlive c (h.liveB b k h1 c hc)
  ·exact h2 c hc
 tsz := h.tsz
 nlt := h.nlt
 lent := fun b hb => by
  obtain ⟨h1, h2, h3⟩ := hL b hb
  rw [h1, h2, h3]; exact h.lent b hb
 defers := h.defers
 below := hbel
 gok := h.gok.mono hw hG.S
theorem CZ.frame {G G' : Gh} {st : St} {bx' : Nat → Option Bg} {a : Act} {w w' : World} (h : CZ P X G st a w)
  (hlive : ∀ b, (st.bx b).isSome = true → (bx' b).isSome = true)
  (hG : G.ext G' (fun b => (st.bx b).isSome = true))
  (hw : ∀ β, G.S β → w'.heap[β]? = w.heap[β]?)
  (hb : ∀ b k, bx' b = some k → (st.bx b = some k ∧ ∀ β, k.real = true → G.has b β → w'.heap[β]? = w.heap[β]?) ∨ (EP P w' G' b k ∧ ∀ c, c ∈ k.names → (bx' c).isSome = true))
  (hat : ∀ b k β, bx' b = some k → k.real = true → G'.has b β → OT X b β ∧ β < w'.heap.size ∧ ¬ G'.S β)
  (hinj : ∀ b c k l β, bx' b = some k → bx' c = some l → k.real = true → l.real = true → G'.has b β → G'.has c β → b = c)
  (hS1 : ∀ β, G'.S β → β < w'.heap.size) (hS2 : ∀ β, G'.S β → X.S0 β ∨ X.w0.heap.size ≤ β)
  (hbel : CL X.L X.w0.heap.size X.w0 w') (hL : ∀ b, Bs b = true → G'.loc b = G.loc b ∧ G'.hd b = G.hd b ∧ G'.more b = G.more b) : CZ P X G' { st with bx := bx' } a w' :=
 h.frameF hlive hG hw hb hat hinj hS1 hS2 hbel fun b hb => hL b (Mb hb)
theorem DL (w : World) (o : Obj) (k : Nat) : (w.alloc o).heap[k]? = if k = w.heap.size then some o else w.heap[k]? := by
 show (w.heap.push o)[k]? = _
 rw [Array.getElem?_push]
theorem CZ.grow {G : Gh} {st : St} {a : Act} {w w' : World} (h : CZ P X G st a w) (hb : SO w.heap.size w w') : CZ P X G st a w' := by
 have hw : ∀ β, G.S β → w'.heap[β]? = w.heap[β]? := fun β hβ => hb.block β (h.S_lt β hβ)
 have hle := h.below.size
 exact h.frame (bx' := st.bx) (fun _ h => h) ⟨fun _ h => h, fun _ _ => rfl, fun _ _ => rfl, fun _ _ => rfl⟩ hw
  (fun b k hk => .inl ⟨hk, fun β hr hβ => hb.block β (h.at_ok b k β hk hr hβ).2.1⟩)
  (fun b k β hk hr hβ => by have h9 := hb.size; have := h.at_ok b k β hk hr hβ; exact ⟨this.1, by omega, this.2.2⟩)
  h.at_inj (fun β hβ => by have := h.S_lt β hβ; have := hb.size; omega) h.S_src (h.below.trans (.of (hb.mono hle))) (fun _ _ => ⟨rfl, rfl, rfl⟩)
def Gh.set (G : Gh) (b : Nat) (l : Option Nat) (v : Value) : Gh :=
 { G with loc := fun c => if c = b then l else G.loc c, hd := fun c => if c = b then v else G.hd c, more := fun c => if c = b then fun _ => False else G.more c }
theorem Gh.set_has {G : Gh} {b c β : Nat} {l : Option Nat} {v : Value} : (G.set b l v).has c β ↔ if c = b then l = some β else G.has c β := by
 unfold Gh.has Gh.set
 by_cases e : c = b <;> simp [e]
theorem Gh.set_lent {G : Gh} {b : Nat} (l : Option Nat) (v : Value) (hb : Bs b = false) : ∀ c, Bs c = true → (G.set b l v).loc c = G.loc c ∧ (G.set b l v).hd c = G.hd c ∧ (G.set b l v).more c = G.more c := by
 intro c hc
 have : c ≠ b := fun e => by rw [e, hb] at hc; cases hc
 simp [Gh.set, this]
theorem GP {b n : Nat} (h : b < n) (hn : n ≤ 90000) : Bs b = false := by
 have h1 : Nat.ble 90000 b = false := by
  cases h2 : Nat.ble 90000 b
  ·rfl
  ·have := Nat.le_of_ble_eq_true h2; omega
 unfold Bs; rw [h1]; rfl
theorem CZ.nl {G : Gh} {st : St} {a : Act} {w : World} (h : CZ P X G st a w) {s : Nat} (hs : s < X.n) : Bs s = false := GP hs h.nlt
theorem Gh.set_ext (G : Gh) (b : Nat) (l : Option Nat) (v : Value) {p : Nat → Prop} (hp : ¬ p b) : G.ext (G.set b l v) p where
 S := fun _ h => h
 loc := fun c hc => by have : c ≠ b := fun e => hp (e ▸ hc); simp [Gh.set, this]
 hd := fun c hc => by have : c ≠ b := fun e => hp (e ▸ hc); simp [Gh.set, this]
 more := fun c hc => by have : c ≠ b := fun e => hp (e ▸ hc); simp [Gh.set, this]
theorem CZ.newB {G : Gh} {st : St} {a : Act} {w : World} (h : CZ P X G st a w) (o : Obj) (b : Nat) (k : Bg) (v : Value) (hbl : Bs b = false) (hnew : st.bx b = none)
  (hk : EP P (w.alloc o) (G.set b (some w.heap.size) v) b k) (hn : ∀ c, c ∈ k.names → (st.bx c).isSome = true) :
  CZ P X (G.set b (some w.heap.size) v) (st.setB b k) a (w.alloc o) := by
 have hw : ∀ β, β < w.heap.size → (w.alloc o).heap[β]? = w.heap[β]? := fun β hβ => by rw [DL, if_neg (by omega)]
 have hsz : (w.alloc o).heap.size = w.heap.size + 1 := by show (w.heap.push o).size = _; simp
 have hle := h.below.size
 refine h.frame (bx' := (st.setB b k).bx) ?_ (Gh.set_ext _ _ _ _ (by simp [hnew])) (fun β hβ => hw β (h.S_lt β hβ)) ?_ ?_ ?_ ?_ h.S_src (h.below.alloc hle o) (Gh.set_lent _ _ hbl)
 ·intro c hc; simp only [St.setB]; split <;> simp [hc]
 ·intro c l hc
  simp only [St.setB] at hc
  split at hc
  ·rename_i e; subst e; cases hc
   exact .inr ⟨hk, fun c hc => by simp only [St.setB]; split <;> simp [hn c hc]⟩
  ·exact .inl ⟨hc, fun β hr hβ => hw β (h.at_ok c l β hc hr hβ).2.1⟩
 ·intro c l β hc hr hβ
  simp only [St.setB] at hc
  rw [Gh.set_has] at hβ
  split at hc
  ·rename_i e; rw [if_pos e] at hβ; cases hβ
   exact ⟨.new hle, by omega, fun hs => Nat.lt_irrefl _ (h.S_lt _ hs)⟩
  ·rename_i e; rw [if_neg e] at hβ
   have := h.at_ok c l β hc hr hβ
   exact ⟨this.1, by omega, this.2.2⟩
 ·intro c c' l l' β hc hc' hr hr' hβ hβ'
  simp only [St.setB] at hc hc'
  rw [Gh.set_has] at hβ hβ'
  split at hc <;> split at hc'
  ·rename_i e e'; rw [e, e']
  ·rename_i e e'; rw [if_pos e] at hβ; rw [if_neg e'] at hβ'
   cases hβ
   have := (h.at_ok c' l' _ hc' hr' hβ').2.1
   omega
  ·rename_i e e'; rw [if_neg e] at hβ; rw [if_pos e'] at hβ'
   cases hβ'
   have := (h.at_ok c l _ hc hr hβ).2.1
   omega
  ·rename_i e e'; rw [if_neg e] at hβ; rw [if_neg e'] at hβ'
   exact h.at_inj c c' l l' β hc hc' hr hr' hβ hβ'
 ·intro β hβ; have := h.S_lt β hβ; omega
def GN (w : World) (β : Nat) (o : Obj) : World := { w with heap := w.heap.setIfInBounds β o }
theorem Ep (w : World) (β : Nat) (o : Obj) (k : Nat) : (GN w β o).heap[k]? = if k = β ∧ β < w.heap.size then some o else w.heap[k]? := by
 show (w.heap.setIfInBounds β o)[k]? = _
 rw [Array.getElem?_setIfInBounds]
 by_cases e : β = k
 ·subst e
  by_cases h : β < w.heap.size
  ·simp [h]
  ·simp [h]
 ·rw [if_neg e, if_neg (fun x => e x.1.symm)]
theorem Mi {L : Nat → Prop} {B : Nat} {a w : World} (h : CL L B a w) {β : Nat} (hβ : B ≤ β ∨ L β) (o : Obj) : CL L B a (GN w β o) :=
 h.trans ⟨rfl, rfl, rfl, by simp [GN], Nat.le_refl _, fun k hk hl => by
  rw [Ep, if_neg]
  rintro ⟨rfl, _⟩
  rcases hβ with h | h
  ·omega
  ·exact hl h⟩
theorem CZ.setB {G : Gh} {st : St} {a : Act} {w : World} (h : CZ P X G st a w) {b β : Nat} {k0 k : Bg} {o : Obj} (hb0 : st.bx b = some k0) (hr0 : k0.real = true) (_hr : k.real = true) (hβ : G.has b β)
  (hk : EP P (GN w β o) G b k) (hn : ∀ c, c ∈ k.names → (st.bx c).isSome = true) :
  CZ P X G (st.setB b k) a (GN w β o) := by
 have hat := h.at_ok b k0 β hb0 hr0 hβ
 have hw : ∀ γ, γ ≠ β → (GN w β o).heap[γ]? = w.heap[γ]? := fun γ hγ => by rw [Ep, if_neg (fun x => hγ x.1)]
 have hsz : (GN w β o).heap.size = w.heap.size := by simp [GN]
 refine h.frame (bx' := (st.setB b k).bx) ?_ ⟨fun _ h => h, fun _ _ => rfl, fun _ _ => rfl, fun _ _ => rfl⟩ (fun γ hγ => hw γ (fun e => hat.2.2 (e ▸ hγ))) ?_ ?_ ?_ ?_ h.S_src (Mi h.below hat.1.2 o) (fun _ _ => ⟨rfl, rfl, rfl⟩)
 ·intro c hc; simp only [St.setB]; split <;> simp [hc]
 ·intro c l hc
  simp only [St.setB] at hc
  split at hc
  ·rename_i e; subst e; cases hc
   exact .inr ⟨hk, fun c hc => by simp only [St.setB]; split <;> simp [hn c hc]⟩
  ·rename_i e
   exact .inl ⟨hc, fun γ hrl hγ => hw γ (fun e' => e (h.at_inj c b l k0 β hc hb0 hrl hr0 (e' ▸ hγ) hβ))⟩
 ·intro c l γ hc hrl hγ
  simp only [St.setB] at hc
  rw [hsz]
  split at hc
  ·rename_i e; subst e; exact h.at_ok _ k0 γ hb0 hr0 hγ
  ·exact h.at_ok c l γ hc hrl hγ
 ·intro c c' l l' γ hc hc' hr1 hr2 hγ hγ'
  simp only [St.setB] at hc hc'
  split at hc <;> split at hc'
  ·rename_i e e'; rw [e, e']
  ·rename_i e e'; exact h.at_inj c c' k0 l' γ (e ▸ hb0) hc' hr0 hr2 hγ hγ'
  ·rename_i e e'; exact h.at_inj c c' l k0 γ hc (e' ▸ hb0) hr1 hr0 hγ hγ'
  ·exact h.at_inj c c' l l' γ hc hc' hr1 hr2 hγ hγ'
 ·intro γ hγ; rw [hsz]; exact h.S_lt γ hγ
def E7 (arr : Array Value) (off : Nat) : List Value → Array Value
 | [] => arr
 | v :: vs => E7 (arr.setIfInBounds off v) (off + 1) vs
theorem GG : ∀ (vs : List Value) (arr : Array Value) (off : Nat), (E7 arr off vs).size = arr.size
 | [], _, _ => rfl
 | v :: vs, arr, off => by rw [E7, GG vs]; simp
theorem Fk : ∀ (vs : List Value) (arr : Array Value) (off j : Nat), off + vs.length ≤ arr.size →
  Au (E7 arr off vs) j = if off ≤ j ∧ j < off + vs.length then vs[j - off]?.getD undef else Au arr j
 | [], arr, off, j, _ => by rw [E7, if_neg (by simp only [List.length_nil]; omega)]
 | v :: vs, arr, off, j, h => by
  simp only [List.length_cons] at h
  rw [E7, Fk vs _ _ _ (by simp; omega), MB (by omega)]
  simp only [List.length_cons]
  by_cases e : j = off
  ·subst e
   rw [if_neg (by omega), if_pos rfl, if_pos (by omega), Nat.sub_self]; rfl
  ·rw [if_neg e]
   by_cases e2 : off ≤ j ∧ j < off + (vs.length + 1)
   ·rw [if_pos (by omega), if_pos e2, show j - off = (j - (off + 1)) + 1 from by omega]; simp
   ·rw [if_neg (by omega), if_neg e2]
theorem Rj (w : World) (β : Nat) (o o' : Obj) : GN (GN w β o) β o' = GN w β o' := by
 simp [GN]
theorem Ri {w : World} {β : Nat} {o : Obj} (h : w.heap[β]? = some o) : GN w β o = w := by
 unfold GN
 congr
 have hlt : β < w.heap.size := by
  rcases Nat.lt_or_ge β w.heap.size with h' | h'
  ·exact h'
  ·simp [Array.getElem?_eq_none h'] at h
 apply Array.ext_getElem?
 intro i
 rw [Array.getElem?_setIfInBounds]
 by_cases e : β = i
 ·subst e; rw [if_pos rfl, if_pos hlt, h]
 ·rw [if_neg e]
theorem Q7 {w : World} {β k : Nat} {arr : Array Value} {el : TypeId} {v : Value} (h : w.heap[β]? = some (.cells arr el (0, 0))) (hk : k < arr.size) (h1 : Gt v = true) :
  (store ⟨β, k, none⟩ v).run P w = .ok () (GN w β (.cells (arr.setIfInBounds k v) el (0, 0))) := by
 have hlt : β < w.heap.size := by
  rcases Nat.lt_or_ge β w.heap.size with h' | h'
  ·exact h'
  ·simp [Array.getElem?_eq_none h'] at h
 have hc : w.cell? ⟨β, k, none⟩ = some arr[k] := by simp [World.cell?, h, hk]
 have hf : w.frozen? ⟨β, k, none⟩ = false := by simp [World.frozen?, h]
 have hs : w.setCell ⟨β, k, none⟩ v = GN w β (.cells (arr.setIfInBounds k v) el (0, 0)) := by
  unfold World.setCell GN
  congr 1
  apply Array.ext_getElem?
  intro i
  rw [Array.getElem?_modify, Array.getElem?_setIfInBounds]
  by_cases e : β = i
  ·subst e; rw [if_pos rfl, if_pos rfl, if_pos hlt, h]; rfl
  ·simp [e]
 unfold store
 cases v <;> first | (simp [Gt] at h1; done) | simp [Sem.run, hc, hf, hs]
theorem Addr.add_mk (β k i : Nat) : (⟨β, k, none⟩ : Addr).add i = ⟨β, k + i, none⟩ := by
 unfold Addr.add; split
 ·rename_i h; subst h; simp
 ·rfl
theorem Ak {α β : Type} {x : Sem α} {f : α → Sem β} {w w1 : World} {a : α} {r : Result β} (h : x.run P w = .ok a w1) (h2 : (f a).run P w1 = r) : (x >>= f).run P w = r := by
 rw [Sem.run_bind, h]; exact h2
theorem H3 {w : World} {β off : Nat} {arr : Array Value} {el : TypeId} {fz : Nat × Nat} (h : w.heap[β]? = some (.cells arr el fz)) :
  ∀ (n i : Nat) (acc : Array Value), off + i + n ≤ arr.size → (loadCellsFrom ⟨β, off, none⟩ i n acc).run P w = .ok (acc ++ ((List.range n).map fun j => Au arr (off + i + j)).toArray) w
 | 0, i, acc, _ => by simp [loadCellsFrom]
 | n + 1, i, acc, hn => by
  have hc : w.cell? ⟨β, off + i, none⟩ = some (Au arr (off + i)) := by
   simp only [World.cell?, h]
   rw [I8 (by omega)]; rfl
  unfold loadCellsFrom
  refine Ak (a := Au arr (off + i)) (w1 := w) (by rw [Addr.add_mk]; simp [load, Sem.run, hc]) ?_
  rw [H3 h n (i + 1) _ (by omega)]
  congr 1
  rw [List.range_succ_eq_map]
  simp only [List.map_cons, List.map_map, Array.push_eq_append, Array.append_assoc]
  congr 1
  simp [Function.comp_def, Nat.add_assoc, Nat.add_comm 1]
theorem Ia {w : World} {β off n : Nat} {arr : Array Value} {el : TypeId} {fz : Nat × Nat} (h : w.heap[β]? = some (.cells arr el fz)) (hn : off + n ≤ arr.size) :
  (loadCells ⟨β, off, none⟩ n).run P w = .ok ((List.range n).map fun j => Au arr (off + j)).toArray w := by
 unfold loadCells
 rw [H3 h n 0 #[] (by omega)]
 simp
theorem Na {w : World} {β off : Nat} {arr : Array Value} {el : TypeId} {fz : Nat × Nat} (h : w.heap[β]? = some (.cells arr el fz)) (hn : off < arr.size) :
  (load ⟨β, off, none⟩).run P w = .ok (Au arr off) w := by
 have hc : w.cell? ⟨β, off, none⟩ = some (Au arr off) := by
  simp only [World.cell?, h]
  rw [I8 hn]; rfl
 simp [load, Sem.run, hc]
theorem Et {β : Nat} {el : TypeId} : ∀ (vs : List Value) (w : World) (off i : Nat) (arr : Array Value), w.heap[β]? = some (.cells arr el (0, 0)) → off + i + vs.length ≤ arr.size →
  (∀ v, v ∈ vs → Gt v = true) → (storeCells ⟨β, off, none⟩ vs i).run P w = .ok () (GN w β (.cells (E7 arr (off + i) vs) el (0, 0)))
 | [], w, off, i, arr, h, _, _ => by simp [storeCells, E7, Ri h]
 | v :: vs, w, off, i, arr, h, hn, h1 => by
  simp only [List.length_cons] at hn
  unfold storeCells
  rw [Addr.add_mk]
  refine Ak (Q7 h (by omega) (h1 v (by simp))) ?_
  have hlt : β < w.heap.size := by
   rcases Nat.lt_or_ge β w.heap.size with h' | h'
   ·exact h'
   ·simp [Array.getElem?_eq_none h'] at h
  rw [Et vs _ off (i + 1) _ (by rw [Ep, if_pos ⟨rfl, hlt⟩]) (by simp; omega) (fun v hv => h1 v (by simp [hv])), Rj]
  rfl
end Go.Lift
namespace Go.Lift
open List renaming getD_eq_getElem?_getD → lD
open Go.RowKit
structure Cc where
 rs : List (Operand × D)
 rb : List (Nat × Bg)
 dst : Option Nat
 out : Option D
 wb : List (Nat × Bg)
 nb : List Nat
def EF (env : Nat → Option D) : List (Operand × D) → Prop
 | [] => True
 | p :: ps => opd env p.1 = some p.2 ∧ EF env ps
def FX (bx : Nat → Option Bg) : List (Nat × Bg) → Prop
 | [] => True
 | p :: ps => bx p.1 = some p.2 ∧ FX bx ps
def KS (bx : Nat → Option Bg) : List Nat → Prop
 | [] => True
 | b :: bs => bx b = none ∧ KS bx bs
structure Cc.pre (l : Cc) (st : St) : Prop where
 r : EF st.env l.rs
 b : FX st.bx l.rb
 n : KS st.bx l.nb
def A8 (bx : Nat → Option Bg) : List (Nat × Bg) → (Nat → Option Bg)
 | [] => bx
 | p :: ps => fun c => if c = p.1 then some p.2 else A8 bx ps c
def Cc.upd (l : Cc) (st : St) : St := St.put ⟨st.env, A8 st.bx l.wb⟩ l.dst l.out
def J3 : List (Operand × D) → List Nat
 | [] => []
 | (.tmp t, _) :: ps => t :: J3 ps
 | _ :: ps => J3 ps
def Cc.sw (l : Cc) : List Nat := l.dst.toList
def Cc.sr (l : Cc) : List Nat := J3 l.rs
def Cc.bw (l : Cc) : List Nat := l.wb.map (·.1)
def Cc.br (l : Cc) : List Nat := l.rb.map (·.1) ++ l.nb
def Kz (a b : List Nat) : Bool := a.any fun x => b.contains x
def Cc.apart (l m : Cc) : Bool :=
 !Kz l.sw m.sr && !Kz l.sw m.sw && !Kz m.sw l.sr && !Kz l.bw m.br && !Kz l.bw m.bw && !Kz m.bw l.br
theorem F1 {a b : List Nat} (h : Kz a b = false) {x : Nat} (ha : x ∈ a) : x ∉ b := by
 intro hb
 have : Kz a b = true := by unfold Kz; exact List.any_eq_true.2 ⟨x, ha, by simpa using hb⟩
 rw [h] at this; cases this
structure KC (l m : Cc) : Prop where
 h1 : ∀ x, x ∈ l.sw → x ∉ m.sr
 h2 : ∀ x, x ∈ l.sw → x ∉ m.sw
 h3 : ∀ x, x ∈ m.sw → x ∉ l.sr
 h4 : ∀ x, x ∈ l.bw → x ∉ m.br
 h5 : ∀ x, x ∈ l.bw → x ∉ m.bw
 h6 : ∀ x, x ∈ m.bw → x ∉ l.br
theorem Cc.apart_spec {l m : Cc} (h : l.apart m = true) : KC l m := by
 simp only [Cc.apart, Bool.and_eq_true, Bool.not_eq_true'] at h
 obtain ⟨⟨⟨⟨⟨a, b⟩, c⟩, d⟩, e⟩, f⟩ := h
 exact ⟨fun _ => F1 a, fun _ => F1 b, fun _ => F1 c, fun _ => F1 d, fun _ => F1 e, fun _ => F1 f⟩
theorem QX {e e' : Nat → Option D} {x : Operand} (h : ∀ t, x = .tmp t → e t = e' t) : opd e x = opd e' x := by
 cases x <;> first | rfl | exact h _ rfl
theorem JU {e e' : Nat → Option D} : ∀ {rs : List (Operand × D)}, (∀ t, t ∈ J3 rs → e t = e' t) → EF e rs → EF e' rs
 | [], _, _ => trivial
 | (x, d) :: ps, h, hp => by
  refine ⟨?_, JU (fun t ht => h t (by cases x <;> simp [J3, ht])) hp.2⟩
  rw [← hp.1]
  exact (QX fun t ht => h t (by subst ht; simp [J3])).symm
theorem J1 {e e' : Nat → Option Bg} : ∀ {rs : List (Nat × Bg)}, (∀ t, t ∈ rs.map (·.1) → e t = e' t) → FX e rs → FX e' rs
 | [], _, _ => trivial
 | (x, d) :: ps, h, hp => ⟨by rw [← hp.1]; exact (h x (by simp)).symm, J1 (fun t ht => h t (by simp at ht ⊢; exact .inr ht)) hp.2⟩
theorem JP {e e' : Nat → Option Bg} : ∀ {rs : List Nat}, (∀ t, t ∈ rs → e t = e' t) → KS e rs → KS e' rs
 | [], _, _ => trivial
 | x :: ps, h, hp => ⟨by rw [← hp.1]; exact (h x (by simp)).symm, JP (fun t ht => h t (by simp [ht])) hp.2⟩
theorem GH {bx : Nat → Option Bg} {c : Nat} : ∀ {wb : List (Nat × Bg)}, c ∉ wb.map (·.1) → A8 bx wb c = bx c
 | [], _ => rfl
 | p :: ps, h => by
  simp only [List.map_cons, List.mem_cons, not_or] at h
  simp only [A8]
  rw [if_neg h.1, GH h.2]
theorem Mq {bx bx' : Nat → Option Bg} {c : Nat} : ∀ {wb : List (Nat × Bg)}, c ∈ wb.map (·.1) → A8 bx wb c = A8 bx' wb c
 | [], h => by simp at h
 | p :: ps, h => by
  simp only [A8]
  by_cases e : c = p.1
  ·rw [if_pos e, if_pos e]
  ·rw [if_neg e, if_neg e]
   exact Mq (by simpa [e] using h)
theorem F6 {l : Cc} {st : St} {t : Nat} (h : t ∉ l.sw) : (l.upd st).env t = st.env t := by
 unfold Cc.upd St.put
 cases hd : l.dst with
 | none => rfl
 | some s =>
  have : t ≠ s := fun e => h (by simp [Cc.sw, hd, e])
  simp [this]
theorem Mg {l : Cc} {st : St} : (l.upd st).bx = A8 st.bx l.wb := by
 unfold Cc.upd St.put
 cases l.dst <;> rfl
theorem Qv {l m : Cc} {st : St} (h : KC l m) : m.pre (l.upd st) ↔ m.pre st := by
 have e : ∀ t, t ∈ J3 m.rs → (l.upd st).env t = st.env t := fun t ht => F6 fun hs => h.h1 t hs ht
 have b : ∀ t, t ∈ m.br → (l.upd st).bx t = st.bx t := fun t ht => by rw [Mg]; exact GH fun hs => h.h4 t hs ht
 constructor
 ·intro hp
  exact ⟨JU e hp.r, J1 (fun t ht => b t (by simp [Cc.br]; exact .inl (by simpa using ht))) hp.b, JP (fun t ht => b t (by simp [Cc.br, ht])) hp.n⟩
 ·intro hp
  exact ⟨JU (fun t ht => (e t ht).symm) hp.r, J1 (fun t ht => (b t (by simp [Cc.br]; exact .inl (by simpa using ht))).symm) hp.b, JP (fun t ht => (b t (by simp [Cc.br, ht])).symm) hp.n⟩
theorem St.ext {s t : St} (h1 : ∀ i, s.env i = t.env i) (h2 : ∀ i, s.bx i = t.bx i) : s = t := by
 cases s; cases t
 congr
 ·exact funext h1
 ·exact funext h2
theorem LZ {l : Cc} {st st' : St} {t : Nat} (h : t ∈ l.sw) : (l.upd st).env t = (l.upd st').env t := by
 unfold Cc.upd St.put
 cases hd : l.dst with
 | none => simp [Cc.sw, hd] at h
 | some s =>
  have : t = s := by simpa [Cc.sw, hd] using h
  simp [this]
theorem SN {l m : Cc} {st : St} (h : KC l m) : l.upd (m.upd st) = m.upd (l.upd st) := by
 apply St.ext
 ·intro t
  by_cases hl : t ∈ l.sw
  ·rw [LZ (st' := st) hl, F6 (h.h2 t hl)]
  ·rw [F6 hl]
   by_cases hm : t ∈ m.sw
   ·exact LZ hm
   ·rw [F6 hm, F6 hm, F6 hl]
 ·intro t
  rw [Mg, Mg, Mg, Mg]
  by_cases hl : t ∈ l.bw
  ·rw [Mq (bx' := st.bx) hl, GH (wb := m.wb) (h.h5 t hl)]
  ·rw [GH (wb := l.wb) hl]
   by_cases hm : t ∈ m.bw
   ·exact Mq hm
   ·rw [GH hm, GH hm, GH hl]
theorem KC.symm {l m : Cc} (h : KC l m) : KC m l :=
 ⟨fun x hx => h.h3 x hx, fun x hx hy => h.h2 x hy hx, fun x hx => h.h1 x hx, fun x hx => h.h6 x hx, fun x hx hy => h.h5 x hy hx, fun x hx => h.h4 x hx⟩
variable {P : Program} {X : G7} {ops : Array Oper}
def LR (P : Program) (X : G7) (ops : Array Oper) (i : Nat) (l : Cc) : Prop :=
 ∀ (st : St) (a : Act) (w : World) (K : Act → World → Prop) (Q : Exit → Act → World → Prop), O8 P X st a w → l.pre st → (∀ a' w', O8 P X (l.upd st) a' w' → K a' w') → wpOp P ops Q i K a w
def IB : List (Nat × Cc) → St → St → Prop
 | [], st, st' => st' = st
 | p :: ps, st, st' => p.2.pre st ∧ IB ps (p.2.upd st) st'
theorem IB.swap {p q : Nat × Cc} {ps : List (Nat × Cc)} {st st' : St} (h : KC p.2 q.2) (hp : IB (p :: q :: ps) st st') : IB (q :: p :: ps) st st' := by
 obtain ⟨h1, h2, h3⟩ := hp
 exact ⟨(Qv h).1 h2, (Qv h.symm).2 h1, by rw [SN h]; exact h3⟩
theorem IB.front {q : Nat × Cc} : ∀ {ps qs : List (Nat × Cc)} {st st' : St}, (∀ p, p ∈ ps → KC p.2 q.2) → IB (ps ++ q :: qs) st st' → IB (q :: (ps ++ qs)) st st'
 | [], _, _, _, _, h => h
 | p :: ps, qs, st, st', ha, h => by
  have : IB (q :: (ps ++ qs)) (p.2.upd st) st' := IB.front (fun x hx => ha x (by simp [hx])) h.2
  exact IB.swap (ha p (by simp)) ⟨h.1, this⟩
def Se (acc : List Nat) (o : Oper) : Nat :=
 o.after.toList.foldl (fun s e => if Region.binds .any e then s ||| 2 ^ e.on ||| acc.getD e.on 0 else s) 0
def Ng : List Oper → List Nat → List Nat
 | [], acc => acc
 | o :: os, acc => Ng os (acc ++ [Se acc o])
def VY (ops : Array Oper) (L : Nat → Prop) : Prop := ∀ j o, ops[j]? = some o → L j → ∀ e, e ∈ o.after → Region.binds .any e = true → L e.on
theorem JA (L : Nat → Prop) (acc : List Nat) (i : Nat) : ∀ (es : List Edge) (s : Nat), (s.testBit i = true → L i) →
  (∀ e, e ∈ es → Region.binds .any e = true → L e.on ∧ ((acc.getD e.on 0).testBit i = true → L i)) →
  (es.foldl (fun s e => if Region.binds .any e then s ||| 2 ^ e.on ||| acc.getD e.on 0 else s) s).testBit i = true → L i
 | [], s, h, _, ht => h ht
 | e :: es, s, h, he, ht => by
  simp only [List.foldl_cons] at ht
  refine JA L acc i es _ ?_ (fun e' h' => he e' (by simp [h'])) ht
  split
  ·rename_i hb
   intro hx
   have h3 := he e (by simp) hb
   simp only [Nat.testBit_or, Bool.or_eq_true, Nat.testBit_two_pow, decide_eq_true_eq] at hx
   rcases hx with (hx | hx) | hx
   ·exact h hx
   ·exact hx ▸ h3.1
   ·exact h3.2 hx
  ·exact h
theorem Mv (ops : Array Oper) (L : Nat → Prop) (hL : VY ops L) : ∀ (os : List Oper) (acc : List Nat), (∀ j, os[j]? = ops[acc.length + j]?) →
  (∀ j, j < acc.length → ∀ o, ops[j]? = some o → (∀ e, e ∈ o.after → Region.binds .any e = true → L e.on) → ∀ i, (acc.getD j 0).testBit i = true → L i) →
  ∀ j o, ops[j]? = some o → (∀ e, e ∈ o.after → Region.binds .any e = true → L e.on) → ∀ i, ((Ng os acc).getD j 0).testBit i = true → L i
 | [], acc, hos, hacc => by
  intro j o ho he i hi
  rcases Nat.lt_or_ge j acc.length with h | h
  ·exact hacc j h o ho he i hi
  ·have := hos (j - acc.length)
   rw [show acc.length + (j - acc.length) = j from by omega, ho] at this
   simp at this
 | o :: os, acc, hos, hacc => by
  refine Mv ops L hL os (acc ++ [Se acc o]) (fun j => by have := hos (j + 1); simp at this; rw [this]; congr 1; simp; omega) ?_
  intro j hj o' ho' he' i hi
  simp only [List.length_append, List.length_singleton] at hj
  rcases Nat.lt_or_ge j acc.length with h | h
  ·exact hacc j h o' ho' he' i (by rw [lD, List.getElem?_append_left h, ← lD] at hi; exact hi)
  ·have hj' : j = acc.length := by omega
   subst hj'
   have h0 := hos 0
   simp only [List.getElem?_cons_zero, Nat.add_zero, ho'] at h0
   obtain rfl : o = o' := Option.some.inj h0
   rw [lD, List.getElem?_append_right (Nat.le_refl _)] at hi
   simp only [Nat.sub_self, List.getElem?_cons_zero, Option.getD_some] at hi
   refine JA L acc i _ 0 (by simp) ?_ hi
   intro e hem hb
   have hem' : e ∈ o.after := by simpa using hem
   refine ⟨he' e hem' hb, fun ht => ?_⟩
   rcases Nat.lt_or_ge e.on acc.length with h5 | h5
   ·have hlt : e.on < ops.size := by
     have : ops[acc.length]? ≠ none := by rw [ho']; simp
     have : acc.length < ops.size := by
      rcases Nat.lt_or_ge acc.length ops.size with h6 | h6
      ·exact h6
      ·exact absurd (Array.getElem?_eq_none h6) this
     omega
    exact hacc e.on h5 ops[e.on] (by simp [hlt]) (fun e2 h2 hb2 => hL e.on ops[e.on] (by simp [hlt]) (he' e hem' hb) e2 h2 hb2) i ht
   ·rw [lD, List.getElem?_eq_none h5] at ht; simp at ht
def Ie (ops : Array Oper) : Bool := ops.toList.zipIdx.all fun p => p.1.after.toList.all fun e => !Region.binds .any e || decide (e.on < p.2)
theorem MM {ops : Array Oper} (h : Ie ops = true) {j : Nat} {o : Oper} (ho : ops[j]? = some o) {e : Edge} (he : e ∈ o.after) (hb : Region.binds .any e = true) : e.on < j := by
 unfold Ie at h
 rw [List.all_eq_true] at h
 have hm : (o, j) ∈ ops.toList.zipIdx := by
  rw [List.mem_iff_getElem?]
  exact ⟨j, by simp [List.getElem?_zipIdx]; exact ho⟩
 have := List.all_eq_true.1 (h _ hm) e (by simpa using he)
 simpa [hb] using this
def Gm (ms : List Nat) : List (Nat × Cc) → Bool
 | [] => true
 | p :: ps => (ps.all fun q => (ms.getD q.1 0).testBit p.1 || p.2.apart q.2) && Gm ms ps
theorem I7 {ms : List Nat} : ∀ {ps qs : List (Nat × Cc)}, qs.Sublist ps → Gm ms ps = true → Gm ms qs = true
 | _, _, .slnil, _ => rfl
 | _, _, .cons _ h, h2 => by simp only [Gm, Bool.and_eq_true] at h2; exact I7 h h2.2
 | _, _, .cons_cons p h, h2 => by
  simp only [Gm, Bool.and_eq_true] at h2 ⊢
  refine ⟨?_, I7 h h2.2⟩
  rw [List.all_eq_true] at h2 ⊢
  exact fun x hx => h2.1 x (h.subset hx)
theorem J6 {ms : List Nat} : ∀ {ps qs : List (Nat × Cc)} {q : Nat × Cc}, Gm ms (ps ++ q :: qs) = true → ∀ p, p ∈ ps → (ms.getD q.1 0).testBit p.1 = true ∨ p.2.apart q.2 = true
 | p :: ps, qs, q, h, x, hx => by
  simp only [List.cons_append, Gm, Bool.and_eq_true] at h
  rcases List.mem_cons.1 hx with e | e
  ·subst e
   have := List.all_eq_true.1 h.1 q (by simp)
   simpa using this
  ·exact J6 h.2 x e
theorem KU {listed : Array Bool} {i : Nat} : i ∈ Region.ready .any ops listed ↔
  i < ops.size ∧ listed.getD i true = false ∧ ∃ o, ops[i]? = some o ∧ ∀ e, e ∈ o.after → Region.binds .any e = true → listed.getD e.on false = true := by
 unfold Region.ready
 simp only [List.mem_filter, List.mem_range, Bool.and_eq_true, Bool.not_eq_true']
 constructor
 ·rintro ⟨h1, h2, h3⟩
  have ho : ops[i]? = some ops[i] := by simp [h1]
  refine ⟨h1, h2, ops[i], ho, ?_⟩
  rw [ho] at h3
  simp only [Option.map_some, Option.getD_some] at h3
  intro e he hb
  have h4 := (Array.all_eq_true_iff_forall_mem.1 h3) e he
  simpa [hb] using h4
 ·rintro ⟨h1, h2, o, ho, h3⟩
  refine ⟨h1, h2, ?_⟩
  rw [ho]
  simp only [Option.map_some, Option.getD_some]
  exact Array.all_eq_true_iff_forall_mem.2 fun e he => by
   by_cases hb : Region.binds .any e = true
   ·simp [h3 e he hb]
   ·simp [hb]
theorem O0 {α : Type} {x : α} : ∀ {l : List α}, x ∈ l → ∃ a b, l = a ++ x :: b
 | y :: l, h => by
  rcases List.mem_cons.1 h with e | e
  ·exact ⟨[], l, by rw [e]; rfl⟩
  ·obtain ⟨a, b, hab⟩ := O0 e
   exact ⟨y :: a, b, by rw [hab]; rfl⟩
theorem Lx (hback : Ie ops = true) {stn : St} {Q : Exit → Act → World → Prop} (hQ : ∀ a w, O8 P X stn a w → Q .normal a w) :
  ∀ (t : List (Nat × Cc)) (listed : Array Bool) (st : St) (a : Act) (w : World), listed.size = ops.size →
   (∀ p, p ∈ t → LR P X ops p.1 p.2) → (∀ i, i < ops.size → (listed.getD i true = false ↔ ∃ l, (i, l) ∈ t)) → (∀ p, p ∈ t → p.1 < ops.size) → (t.map (·.1)).Pairwise (· < ·) →
   VY ops (fun i => listed.getD i false = true) →
   Gm (Ng ops.toList []) t = true → IB t st stn → O8 P X st a w → wpAny P .any ops Q t.length listed a w
 | [], listed, st, a, w, hsz, _, hun, _, _, _, _, hp, hs => by
  have hr : Region.ready .any ops listed = [] := by
   apply List.eq_nil_iff_forall_not_mem.2
   intro i hi
   obtain ⟨h1, h2, _⟩ := KU.1 hi
   obtain ⟨l, hl⟩ := (hun i h1).1 h2
   cases hl
  refine ⟨hr, ?_⟩
  have hp' : stn = st := hp
  subst hp'
  exact hQ _ _ hs
 | p :: t, listed, st, a, w, hsz, hLR, hun, hlt, hsort, hshut, hok, hp, hs => by
  have flip : ∀ i, i < ops.size → listed.getD i true = true → listed.getD i false = true := fun i hi h => by
   rw [Array.getD_eq_getD_getElem?] at h ⊢
   have : i < listed.size := by omega
   simp [this] at h ⊢; exact h
  constructor
  ·intro hr
   exfalso
   have hp1 : p.1 < ops.size := hlt p (by simp)
   have : p.1 ∈ Region.ready .any ops listed := by
    refine KU.2 ⟨hp1, (hun p.1 hp1).2 ⟨p.2, by simp⟩, ops[p.1], by simp [hp1], fun e he hb => ?_⟩
    have hlt' : e.on < p.1 := MM hback (j := p.1) (o := ops[p.1]) (by simp [hp1]) he hb
    apply flip e.on (by omega)
    cases hx : listed.getD e.on true with
    | true => rfl
    | false =>
     obtain ⟨l, hl⟩ := (hun e.on (by omega)).1 hx
     rcases List.mem_cons.1 hl with h | h
     ·rw [← h] at hlt'; simp at hlt'
     ·rw [List.map_cons, List.pairwise_cons] at hsort
      have := hsort.1 e.on (List.mem_map.2 ⟨_, h, rfl⟩)
      omega
   rw [hr] at this; cases this
  ·intro i hi
   obtain ⟨h1, h2, o, ho, h3⟩ := KU.1 hi
   obtain ⟨l, hl⟩ := (hun i h1).1 h2
   obtain ⟨ps, qs, hpq⟩ := O0 hl
   rw [hpq] at hok hp hsort
   have hlen : t.length = (ps ++ qs).length := by
    have := congrArg List.length hpq
    simp at this ⊢; omega
   have hap : ∀ x, x ∈ ps → KC x.2 l := by
    intro x hx
    rcases J6 hok x hx with hm | hm
    ·exfalso
     have hin : listed.getD x.1 false = true := Mv ops (fun i => listed.getD i false = true) hshut ops.toList [] (by simp) (by simp) i o ho h3 x.1 hm
     have hx1 : x.1 < ops.size := hlt x (by rw [hpq]; simp [hx])
     have : listed.getD x.1 true = false := (hun x.1 hx1).2 ⟨x.2, by rw [hpq]; simp [hx]⟩
     have hsl : x.1 < listed.size := by omega
     rw [Array.getD_eq_getD_getElem?] at hin this
     simp [hsl] at hin this
     rw [hin] at this; cases this
    ·exact Cc.apart_spec hm
   have hp2 := IB.front hap hp
   rw [hlen]
   have hsub : (ps ++ qs).Sublist (ps ++ (i, l) :: qs) := List.Sublist.append (List.Sublist.refl _) (List.sublist_cons_self _ _)
   have hne : ∀ x, x ∈ ps ++ qs → x.1 ≠ i := by
    intro x hx e
    rw [List.map_append, List.map_cons, List.pairwise_append] at hsort
    rcases List.mem_append.1 hx with h | h
    ·have := hsort.2.2 x.1 (List.mem_map.2 ⟨x, h, rfl⟩) i (by simp)
     omega
    ·have := (List.pairwise_cons.1 hsort.2.1).1 x.1 (List.mem_map.2 ⟨x, h, rfl⟩)
     omega
   have hget : ∀ (j : Nat) (b : Bool), (listed.setIfInBounds i true).getD j b = if j = i then true else listed.getD j b := by
    intro j b
    rw [Array.getD_eq_getD_getElem?, Array.getD_eq_getD_getElem?, Array.getElem?_setIfInBounds]
    by_cases e : i = j
    ·subst e; simp [show i < listed.size from by omega]
    ·rw [if_neg e, if_neg (Ne.symm e)]
   refine hLR (i, l) (by rw [hpq]; simp) st a w _ _ hs hp2.1 fun a' w' hs' => ?_
   refine Lx hback hQ (ps ++ qs) (listed.setIfInBounds i true) _ a' w' (by simp [hsz]) (fun x hx => hLR x (by rw [hpq]; exact hsub.subset hx)) ?_
    (fun x hx => hlt x (by rw [hpq]; exact hsub.subset hx)) (List.Pairwise.sublist (hsub.map _) hsort) ?_ (I7 hsub hok) hp2.2 hs'
   ·intro j hj
    rw [hget]
    constructor
    ·intro hx
     split at hx
     ·cases hx
     ·rename_i hji
      obtain ⟨m, hm⟩ := (hun j hj).1 hx
      rw [hpq] at hm
      refine ⟨m, ?_⟩
      rcases List.mem_append.1 hm with h | h
      ·exact List.mem_append.2 (.inl h)
      ·rcases List.mem_cons.1 h with h | h
       ·cases h; exact absurd rfl hji
       ·exact List.mem_append.2 (.inr h)
    ·rintro ⟨m, hm⟩
     rw [if_neg (hne _ hm)]
     exact (hun j hj).2 ⟨m, by rw [hpq]; exact hsub.subset hm⟩
   ·intro j o' ho' hj e he hb
    simp only [hget] at hj ⊢
    split
    ·rfl
    ·split at hj
     ·rename_i e1; subst e1
      rw [ho] at ho'; cases ho'
      exact h3 e he hb
     ·exact hshut j o' ho' hj e he hb
 termination_by t => t.length
 decreasing_by
  have := congrArg List.length hpq
  simp at this ⊢; omega
def E8 (P : Program) (X : G7) (st st' : St) : Prop := ∀ a w, O8 P X st a w → O8 P X st' a w
def A6 (P : Program) (X : G7) (ops : Array Oper) (dr : Bool) (Q : St → Prop) : Nat → Nat → St → List (Nat × Cc) → Prop
 | 0, _, st, log => (dr = true → (Gm (Ng ops.toList []) log.reverse && Ie ops) = true) ∧ Q st
 | r + 1, i, st, log => ∃ st1 l, (if dr = true then st1 = st else E8 P X st st1) ∧ LR P X ops i l ∧ l.pre st1 ∧ A6 P X ops dr Q r (i + 1) (l.upd st1) ((i, l) :: log)
theorem IB.snoc {p : Nat × Cc} : ∀ {ps : List (Nat × Cc)} {st st' : St}, IB ps st st' → p.2.pre st' → IB (ps ++ [p]) st (p.2.upd st')
 | [], st, st', h, hp => by
  have h' : st' = st := h
  subst h'; exact ⟨hp, rfl⟩
 | q :: ps, st, st', h, hp => ⟨h.1, IB.snoc h.2 hp⟩
theorem A6.path {Q : St → Prop} {st0 : St} : ∀ (r i : Nat) (st : St) (log : List (Nat × Cc)), A6 P X ops true Q r i st log →
  (∀ p, p ∈ log → LR P X ops p.1 p.2) → IB log.reverse st0 st → (log.reverse.map (·.1)) = List.range i →
  ∃ full stn, (∀ p, p ∈ full → LR P X ops p.1 p.2) ∧ IB full st0 stn ∧ full.map (·.1) = List.range (i + r) ∧ (Gm (Ng ops.toList []) full && Ie ops) = true ∧ Q stn
 | 0, i, st, log, h, h1, h2, h3 => ⟨log.reverse, st, fun p hp => h1 p (by simpa using hp), h2, h3, h.1 rfl, h.2⟩
 | r + 1, i, st, log, h, h1, h2, h3 => by
  obtain ⟨st1, l, he, hl, hpre, hrun⟩ := h
  have he' : st1 = st := by simpa using he
  subst he'
  have := A6.path r (i + 1) _ _ hrun (fun p hp => (List.mem_cons.1 hp).elim (fun e => by subst e; exact hl) (h1 p))
   (by simp only [List.reverse_cons]; exact IB.snoc h2 hpre) (by simp [h3, List.range_succ])
  simpa [Nat.add_assoc, Nat.add_comm 1 r] using this
theorem A6.text {R : St → Prop} {Q : Exit → Act → World → Prop} (hQ : ∀ st a w, R st → O8 P X st a w → Q .normal a w) :
  ∀ (r i : Nat) (st : St) (log : List (Nat × Cc)) (a : Act) (w : World), A6 P X ops false R r i st log → O8 P X st a w → wpOps P ops Q (List.range' i r) a w
 | 0, i, st, log, a, w, h, hs => hQ _ _ _ h.2 hs
 | r + 1, i, st, log, a, w, h, hs => by
  obtain ⟨st1, l, he, hl, hpre, hrun⟩ := h
  have he' : E8 P X st st1 := by simpa using he
  rw [List.range'_succ, wpOps_cons]
  exact hl st1 a w _ _ (he' a w hs) hpre fun a' w' hs' => A6.text hQ r (i + 1) _ _ a' w' hrun hs'
theorem O8.drew {st : St} {a : Act} {w : World} (h : O8 P X st a w) : O8 P X st a { w with drawn := w.drawn + 1 } := by
 obtain ⟨G, h⟩ := h
 exact ⟨G, h.grow ⟨Below.drew (Below.refl _ _), Nat.le_succ _⟩⟩
theorem MK {id : Nat} {dr : Bool} {R : St → Prop} {Q : Exit → Act → World → Prop} {st : St} {a : Act} {w : World} (hm : P.follows .mixedOrders = true)
  (hrun : A6 P X ops dr R ops.size 0 st []) (hQ : ∀ st' a' w', R st' → O8 P X st' a' w' → Q .normal a' w') (hs : O8 P X st a w) : (Code.region id ops dr).wp P Q a w := by
 cases dr with
 | false =>
  refine wp_region ?_
  have := A6.text hQ ops.size 0 st [] a w hrun hs
  rwa [← List.range_eq_range'] at this
 | true =>
  obtain ⟨full, stn, h1, h2, h3, h6, h5⟩ := A6.path (st0 := st) ops.size 0 st [] hrun (by simp) rfl (by simp)
  rw [Nat.zero_add] at h3
  simp only [Bool.and_eq_true] at h6
  have hlen : full.length = ops.size := by have := congrArg List.length h3; simpa using this
  have hmem : ∀ p, p ∈ full → p.1 < ops.size := fun p hp => by
   have : p.1 ∈ full.map (·.1) := List.mem_map.2 ⟨p, hp, rfl⟩
   rw [h3] at this; simpa using this
  refine wp_region_any hm ?_
  rw [← hlen]
  refine Lx h6.2 (fun a' w' hs' => hQ _ _ _ h5 hs') full (Array.replicate full.length false) st a _ (by simp [hlen]) h1 ?_ hmem ?_ ?_ h6.1 h2 hs.drew
  ·intro i hi
   constructor
   ·intro _
    have : i ∈ full.map (·.1) := by rw [h3]; simpa using hi
    obtain ⟨p, hp, e⟩ := List.mem_map.1 this
    exact ⟨p.2, by rw [← e]; exact hp⟩
   ·intro _
    rw [Array.getD_eq_getD_getElem?]
    simp [hlen, hi]
  ·rw [h3]; exact List.pairwise_lt_range
  ·intro j o ho hj
   rw [Array.getD_eq_getD_getElem?] at hj
   by_cases hlt : j < full.length
   ·simp [hlt] at hj
   ·simp [hlt] at hj
end Go.Lift
namespace Go.Lift
open Option renaming bind_some → oS
open List renaming mem_of_getElem? → lM
open Go.RowKit
variable {P : Program} {X : G7} {ops : Array Oper}
abbrev one (t : T) : D := .e (.one (.pure t))
abbrev vD (v : Value) : D := .e (.one (.pure (.val v)))
abbrev bD (b : Bool) : D := .e (.one (.pure (.val (.bool b))))
inductive SP (ops : Array Oper) (o : Oper) : List (Operand × D) → Prop where
 | none (h : o.guard = none) : SP ops o []
 | some (j : Nat) (want : Bool) (t : Nat) (h : o.guard = some (j, want)) (hj : (ops[j]?).bind (·.dst) = some t) : SP ops o [(.tmp t, bD want)]
theorem Pt {arr : Array Value} {t : Nat} {b : Bool} (h : Au arr t = .bool b) : arr[t]? = some (.bool b) := by
 unfold Au at h
 cases hx : arr[t]? with
 | none => rw [hx] at h; simp [undef] at h
 | some v => rw [hx] at h; simpa using h
theorem CZ.wanted {G : Gh} {st : St} {a : Act} {w : World} (h : CZ P X G st a w) {o : Oper} {gs : List (Operand × D)} (hg : SP ops o gs) (hp : EF st.env gs) :
  Region.wanted o (yielded ops a.tmps) = true := by
 cases hg with
 | none h0 => simp [Region.wanted, h0]
 | some j want t h0 hj =>
  have h1 : C1 w G.S (Au a.tmps t) (.val (.bool want)) := h.env t _ hp.1
  have h2 : Au a.tmps t = .bool want := by
   generalize Au a.tmps t = v at h1
   cases h1; rfl
  have h3 := Pt h2
  simp [Region.wanted, h0, yielded, hj, h3]
theorem Al {env : Nat → Option D} : ∀ {a b : List (Operand × D)}, EF env (a ++ b) ↔ EF env a ∧ EF env b
 | [], b => by simp [EF]
 | p :: a, b => by simp only [List.cons_append, EF, Al (a := a), and_assoc]
theorem LR.value {i : Nat} {o : Oper} {l : Cc} {gs rs : List (Operand × D)} (ho : ops[i]? = some o) (hg : SP ops o gs) (hrs : l.rs = gs ++ rs) (hd : l.dst = o.dst) (hn : ∀ s, o.dst = some s → s < X.n)
  (h : ∀ G st a w, CZ P X G st a w → l.pre st → ∃ v w' G', (execOp a.eval o).run P w = .ok (.value v) w' ∧ CZ P X G' ⟨st.env, A8 st.bx l.wb⟩ a w' ∧
   ∀ d, l.out = some d → F9 P w' G' v d ∧ ∀ b, b ∈ d.names → ((A8 st.bx l.wb) b).isSome = true) : LR P X ops i l := by
 intro st a w K Q hs hpre hK
 obtain ⟨G, hs⟩ := hs
 obtain ⟨v, w', G', hrun, hs', hout⟩ := h G st a w hs hpre
 have hw := hs.wanted hg (Al.1 (hrs ▸ hpre.r)).1
 unfold wpOp
 rw [ho]
 simp only [hw, if_true]
 refine .inl ?_
 unfold Oper.wp
 rw [hrun]
 show K (a.put o.dst v) w'
 rw [← hd]
 exact hK _ _ ⟨G', hs'.put l.dst l.out v (by rw [hd]; exact hn) hout⟩
theorem LR.skip {i : Nat} {o : Oper} {l : Cc} {gs rs : List (Operand × D)} (ho : ops[i]? = some o) (hg : SP ops o gs) (hrs : l.rs = gs ++ rs) (hd : o.dst = none) (hd' : l.dst = none)
  (h : ∀ G st a w, CZ P X G st a w → l.pre st → ∃ w' G', (execOp a.eval o).run P w = .ok .skip w' ∧ CZ P X G' ⟨st.env, A8 st.bx l.wb⟩ a w') : LR P X ops i l := by
 intro st a w K Q hs hpre hK
 obtain ⟨G, hs⟩ := hs
 obtain ⟨w', G', hrun, hs'⟩ := h G st a w hs hpre
 have hw := hs.wanted hg (Al.1 (hrs ▸ hpre.r)).1
 unfold wpOp
 rw [ho]
 simp only [hw, if_true]
 refine .inl ?_
 unfold Oper.wp
 rw [hrun]
 show K (a.put o.dst undef) w'
 refine hK _ _ ⟨G', ?_⟩
 rw [hd]
 unfold Cc.upd
 rw [hd']
 exact hs'
def WQ (ops : Array Oper) (i n : Nat) : Option (Op × Nat) := match ops[i]? with
 | some o => (match o.guard, o.dst with
  | none, some s => if Nat.blt s n then some (o.op, s) else none
  | _, _ => none)
 | none => none
def W4 (ops : Array Oper) (i n : Nat) : Option (Op × Nat × Nat × Bool) := match ops[i]? with
 | some o => (match o.guard, o.dst with
  | some (j, want), some s => (match (ops[j]?).bind (·.dst) with
   | some t => if Nat.blt s n then some (o.op, s, t, want) else none
   | none => none)
  | _, _ => none)
 | none => none
inductive At (env : Nat → Option D) (ops : Array Oper) (i n : Nat) : Op → Nat → List (Operand × D) → Prop where
 | p {op : Op} {s : Nat} (h : WQ ops i n = some (op, s)) : At env ops i n op s []
 | g {op : Op} {s t : Nat} {want : Bool} (h : W4 ops i n = some (op, s, t, want)) (he : env t = some (bD want)) : At env ops i n op s [(.tmp t, bD want)]
theorem PS {a b : Nat} (h : Nat.blt a b = true) : a < b := by rw [← Nat.blt_eq]; exact h
theorem At.out {env : Nat → Option D} {ops : Array Oper} {i n s : Nat} {op : Op} {gs : List (Operand × D)} (h : At env ops i n op s gs) :
  ∃ o, ops[i]? = some o ∧ o.op = op ∧ o.dst = some s ∧ s < n ∧ SP ops o gs ∧ EF env gs := by
 cases h with
 | p h =>
  unfold WQ at h
  split at h
  ·rename_i o ho
   split at h
   ·rename_i s' hg hd
    split at h
    ·rename_i hb
     cases h
     exact ⟨o, ho, rfl, hd, PS hb, .none hg, trivial⟩
    ·cases h
   ·cases h
  ·cases h
 | g h he =>
  unfold W4 at h
  split at h
  ·rename_i o ho
   split at h
   ·rename_i j want' s' hg hd
    split at h
    ·rename_i t' ht
     split at h
     ·rename_i hb
      cases h
      exact ⟨o, ho, rfl, hd, PS hb, .some j _ _ hg ht, he, trivial⟩
     ·cases h
    ·cases h
   ·cases h
  ·cases h
def P4 (ops : Array Oper) (i : Nat) : Option Op := match ops[i]? with
 | some o => (match o.guard, o.dst with
  | none, none => some o.op
  | _, _ => none)
 | none => none
theorem Ou {ops : Array Oper} {i : Nat} {op : Op} (h : P4 ops i = some op) : ∃ o, ops[i]? = some o ∧ o.op = op ∧ o.dst = none ∧ o.guard = none := by
 unfold P4 at h
 split at h
 ·rename_i o ho
  split at h
  ·rename_i hg hd
   cases h
   exact ⟨o, ho, rfl, hd, hg⟩
  ·cases h
 ·cases h
section run
variable {dr : Bool} {Q : St → Prop} {r i : Nat} {st : St} {log : List (Nat × Cc)} {o : Oper} {gs : List (Operand × D)}
theorem A6.step {l : Cc} (next : A6 P X ops dr Q r (i + 1) (l.upd st) ((i, l) :: log)) (hp : l.pre st) (h : LR P X ops i l) : A6 P X ops dr Q (r + 1) i st log := ⟨st, l, by cases dr; exact fun _ _ h => h; exact rfl, h, hp, next⟩
def UP (ops : Array Oper) (i n : Nat) : Option (Nat × Nat × Nat × Bool) := match ops[i]? with
 | some o => (match o.guard, o.dst with
  | some (j, want), some s => (match (ops[j]?).bind (·.dst) with
   | some t => if Nat.blt s n then some (j, s, t, want) else none
   | none => none)
  | _, _ => none)
 | none => none
theorem S9 {t : Nat} {b : Bool} (hx : st.env t = some (bD b)) (h1 : b = true → A6 P X ops dr Q r i (St.put st (some t) (some (bD true))) log) (h2 : b = false → A6 P X ops dr Q r i (St.put st (some t) (some (bD false))) log) : A6 P X ops dr Q r i st log := by
 have key : ∀ c : Bool, b = c → St.put st (some t) (some (bD c)) = st := by
  intro c hc
  subst hc
  apply St.ext
  ·intro u
   simp only [St.put]
   split
   ·rename_i e; rw [e, hx]
   ·rfl
  ·intro u; rfl
 cases b with
 | true => have := h1 rfl; rwa [key true rfl] at this
 | false => have := h2 rfl; rwa [key false rfl] at this
theorem DA {st1 : St} (h : E8 P X st st1) (next : A6 P X ops false Q (r + 1) i st1 log) : A6 P X ops false Q (r + 1) i st log := by
 obtain ⟨st2, l, he, h1, h2, h3⟩ := next
 refine ⟨st2, l, ?_, h1, h2, h3⟩
 have he' : E8 P X st1 st2 := by simpa using he
 show if false = true then _ else _
 rw [if_neg (by decide)]
 exact fun a w hs => he' a w (h a w hs)
theorem C5 {s : Nat} (hd : o.dst = some s) (hn : s < X.n) : ∀ t, o.dst = some t → t < X.n := by
 intro t e; rw [hd] at e; cases e; exact hn
theorem Wc {x : Operand} {d : D} {s : Nat} (ho : ops[i]? = some o) (hop : o.op = .move x ∨ o.op = .assign x) (hd : o.dst = some s) (hn : s < X.n) (hg : SP ops o gs) (hgp : EF st.env gs)
  (hx : opd st.env x = some d)
  (next : A6 P X ops dr Q r (i + 1) (Cc.upd ⟨gs ++ [(x, d)], [], some s, some d, [], []⟩ st) ((i, ⟨gs ++ [(x, d)], [], some s, some d, [], []⟩) :: log)) : A6 P X ops dr Q (r + 1) i st log := by
 refine A6.step next ⟨Al.2 ⟨hgp, hx, trivial⟩, trivial, trivial⟩ (LR.value ho hg rfl hd.symm (C5 hd hn) ?_)
 intro G st a w hs hpre
 have hx := (Al.1 hpre.r).2.1
 refine ⟨a.eval x, w, G, ?_, hs, ?_⟩
 ·rcases hop with h | h <;> simp [execOp, h]
 ·rintro d' ⟨⟩
  exact ⟨hs.opd hx, hs.opd_live hx⟩
theorem Uz {x : Operand} {d : D} {s : Nat} (hat : At st.env ops i X.n (.move x) s gs) (hx : opd st.env x = some d)
  (next : A6 P X ops dr Q r (i + 1) (Cc.upd ⟨gs ++ [(x, d)], [], some s, some d, [], []⟩ st) ((i, ⟨gs ++ [(x, d)], [], some s, some d, [], []⟩) :: log)) : A6 P X ops dr Q (r + 1) i st log := by
 obtain ⟨o, ho, hop, hd, hn, hg, hgp⟩ := hat.out
 exact Wc ho (.inl hop) hd hn hg hgp hx next
theorem Sl {x : Operand} {d : D} {s : Nat} (hat : At st.env ops i X.n (.assign x) s gs) (hx : opd st.env x = some d)
  (next : A6 P X ops dr Q r (i + 1) (Cc.upd ⟨gs ++ [(x, d)], [], some s, some d, [], []⟩ st) ((i, ⟨gs ++ [(x, d)], [], some s, some d, [], []⟩) :: log)) : A6 P X ops dr Q (r + 1) i st log := by
 obtain ⟨o, ho, hop, hd, hn, hg, hgp⟩ := hat.out
 exact Wc ho (.inr hop) hd hn hg hgp hx next
def E.cells : E → List C
 | .one c => [c]
 | .agg cs => cs
theorem Il.cells {w : World} {G : Gh} {v : Value} {x : E} (h : Il P w G v x) : v.cells.size = x.cells.length ∧ ∀ (j : Nat) (c : C), x.cells[j]? = some c → Ed P w G (Au v.cells j) c := by
 cases x with
 | one c =>
  have h' : Ed P w G v c := h
  have ho := h'.one
  have hc : v.cells = #[v] := by cases v <;> first | rfl | simp [Gt] at ho
  rw [hc]
  refine ⟨rfl, fun j c' hj => ?_⟩
  cases j with
  | zero => simp [E.cells] at hj; subst hj; simpa [Au] using h'
  | succ j => simp [E.cells] at hj
 | agg cs =>
  obtain ⟨vs, rfl, hs, h⟩ := h
  exact ⟨hs, h⟩
theorem E.cells_names {x : E} {b : Nat} : b ∈ DZ x.cells ↔ b ∈ x.names := by
 cases x <;> simp [E.cells, E.names, DZ]
theorem VI {x : Operand} {y : E} {s : Nat} {el : TypeId} (hat : At st.env ops i X.n (.box el x) s gs)
  (hx : opd st.env x = some (.e y)) (hnew : st.bx s = none)
  (next : A6 P X ops dr Q r (i + 1) (Cc.upd ⟨gs ++ [(x, .e y)], [], some s, some (.e (.one (.ptr s 0))), [(s, .box y.cells)], [s]⟩ st) ((i, ⟨gs ++ [(x, .e y)], [], some s, some (.e (.one (.ptr s 0))), [(s, .box y.cells)], [s]⟩) :: log)) : A6 P X ops dr Q (r + 1) i st log := by
 obtain ⟨o, ho, hop, hd, hn, hg, hgp⟩ := hat.out
 refine A6.step next ⟨Al.2 ⟨hgp, hx, trivial⟩, trivial, hnew, trivial⟩ (LR.value ho hg rfl hd.symm (C5 hd hn) ?_)
 intro G st a w hs hpre
 have hx := (Al.1 hpre.r).2.1
 have hnew := hpre.n.1
 have hR : Il P w G (a.eval x) y := hs.opd hx
 have hl := hs.opd_live hx
 obtain ⟨h1, h2⟩ := hR.cells
 have hext : G.ext (G.set s (some w.heap.size) undef) (fun b => (st.bx b).isSome = true) := Gh.set_ext _ _ _ _ (by simp [hnew])
 have key := hs.newB (.cells (a.eval x).cells el) s (.box y.cells) undef (hs.nl hn) hnew
  ⟨w.heap.size, (a.eval x).cells, el, by simp [Gh.set], by rw [DL, if_pos rfl], h1, fun j c hj => (h2 j c hj).mono hext (fun β hβ => by rw [DL, if_neg (Nat.ne_of_lt (hs.S_lt β hβ))])
   fun b hb => hl b (by show b ∈ y.names; rw [← E.cells_names]; exact AU.2 ⟨c, lM hj, hb⟩)⟩
  (fun c hc => hl c (by show c ∈ y.names; rw [← E.cells_names]; exact hc))
 refine ⟨.pointer (some ⟨w.heap.size, 0, none⟩), _, _, ?_, key, ?_⟩
 ·simp [execOp, hop, Instr.box, newVar, newRow]
 ·rintro d ⟨⟩
  refine ⟨⟨w.heap.size, by simp [Gh.set], rfl⟩, ?_⟩
  intro b hb
  simp [D.names, E.names, C.names] at hb
  subst hb; simp [A8]
def Gs (P : Program) (t : TypeId) (n : Nat) : Bool := match P.info? t with | some i => i.size == n | none => false
def D7 (P : Program) (t : TypeId) (b : Bool) : Bool := match P.underlying t with | some (.struct _) | some (.array _ _) => b | some _ => !b | none => false
def DP (P : Program) (t : TypeId) : Option Value := (P.info? t).bind (·.zero)
def CH (P : Program) (s : TypeId) (f off : Nat) : Bool := match P.underlying s with
 | some (.struct fs) => (match fs[f]? with | some fl => fl.offset == off && (match P.info? fl.type with | some i => i.size != 0 | none => false) | none => false)
 | _ => false
def sliceB (P : Program) (t e : TypeId) : Bool := match P.underlying t with | some (.slice e') => e' == e | _ => false
theorem DM {t n : Nat} (h : Gs P t n = true) (w : World) : (sizeOf t).run P w = .ok n w := by
 unfold Gs at h
 split at h
 ·rename_i i hi
  have : i.size = n := by simpa using h
  simp [sizeOf, typeInfo, program, Sem.run, hi, this]
 ·cases h
theorem AK {t : TypeId} {d : TypeDesc} (h : P.underlying t = some d) (w : World) : (underlying t).run P w = .ok d w := by
 simp [underlying, program, Sem.run, h]
theorem Hi {t : TypeId} {b : Bool} (h : D7 P t b = true) (w : World) : (isAgg t).run P w = .ok b w := by
 unfold D7 at h
 unfold isAgg
 split at h
 ·rename_i hu; subst h; refine Ak (AK hu w) ?_; rfl
 ·rename_i hu; subst h; refine Ak (AK hu w) ?_; rfl
 ·rename_i d hu1 hu2 hd
  have : b = false := by simpa using h
  subst this
  refine Ak (AK hd w) ?_
  cases d <;> first | rfl | (exfalso; exact hu1 _ rfl) | (exfalso; exact hu2 _ _ rfl)
 ·cases h
theorem ET {t : TypeId} {z : Value} (h : DP P t = some z) (w : World) : (zeroValue t).run P w = .ok z w := by
 unfold DP at h
 cases hi : P.info? t with
 | none => rw [hi] at h; cases h
 | some i =>
  rw [hi] at h
  simp only [oS] at h
  simp [zeroValue, typeInfo, program, Sem.run, hi, h]
theorem OR {w : World} {G : Gh} {vs : Array Value} (h : vs.toList.all Gt = true) (j : Nat) (c : C) (hj : (vs.toList.map fun v => C.pure (T.of v))[j]? = some c) : Ed P w G (Au vs j) c := by
 rw [List.getElem?_map] at hj
 cases hx : vs.toList[j]? with
 | none => rw [hx] at hj; cases hj
 | some v =>
  rw [hx] at hj; cases hj
  have hv : vs[j]? = some v := by simpa using hx
  have h1 : Gt v = true := List.all_eq_true.1 h v (lM hx)
  simp only [Au, hv, Option.getD_some]
  exact C1.of h1
theorem NC {l : List Value} : DZ (l.map fun v => C.pure (T.of v)) = [] := by
 induction l with
 | nil => rfl
 | cons v l ih => simp only [List.map_cons, DZ, C.names, ih, List.append_nil]
theorem Tl {z : Value} {zs : List Value} {s : Nat} {el : TypeId} (hat : At st.env ops i X.n (.alloc el) s gs)
  (hz : DP P el = some z) (hzs : z.cells.toList = zs) (h1 : zs.all Gt = true) (hnew : st.bx s = none)
  (next : A6 P X ops dr Q r (i + 1) (Cc.upd ⟨gs ++ [], [], some s, some (.e (.one (.ptr s 0))), [(s, .box (zs.map fun v => C.pure (T.of v)))], [s]⟩ st) ((i, ⟨gs ++ [], [], some s, some (.e (.one (.ptr s 0))), [(s, .box (zs.map fun v => C.pure (T.of v)))], [s]⟩) :: log)) : A6 P X ops dr Q (r + 1) i st log := by
 obtain ⟨o, ho, hop, hd, hn, hg, hgp⟩ := hat.out
 subst hzs
 refine A6.step next ⟨Al.2 ⟨hgp, trivial⟩, trivial, hnew, trivial⟩ (LR.value ho hg rfl hd.symm (C5 hd hn) ?_)
 intro G st a w hs hpre
 have hnew := hpre.n.1
 have key := hs.newB (.cells z.cells el) s (.box (z.cells.toList.map fun v => C.pure (T.of v))) undef (hs.nl hn) hnew
  ⟨w.heap.size, z.cells, el, by simp [Gh.set], by rw [DL, if_pos rfl], by simp, fun j c hj => OR h1 j c hj⟩
  (fun c hc => by
   have hc' : c ∈ DZ (z.cells.toList.map fun v => C.pure (T.of v)) := hc
   rw [NC] at hc'; cases hc')
 refine ⟨.pointer (some ⟨w.heap.size, 0, none⟩), _, _, ?_, key, ?_⟩
 ·simp only [execOp, hop, Instr.alloc]
  refine Ak (a := (.pointer (some ⟨w.heap.size, 0, none⟩))) (w1 := w.alloc (.cells z.cells el)) ?_ rfl
  refine Ak (ET hz w) ?_
  simp [newVar, newRow]
 ·rintro d ⟨⟩
  refine ⟨⟨w.heap.size, by simp [Gh.set], rfl⟩, ?_⟩
  intro b hb
  simp [D.names, E.names, C.names] at hb
  subst hb; simp [A8]
theorem Jj {t : TypeId} {w : World} {β off : Nat} {arr : Array Value} {el : TypeId} {fz : Nat × Nat} (ht : D7 P t false = true) (h : w.heap[β]? = some (.cells arr el fz)) (hn : off < arr.size) :
  (Instr.loadAt t (.pointer (some ⟨β, off, none⟩))).run P w = .ok (Au arr off) w := by
 unfold Instr.loadAt
 refine Ak (a := (⟨β, off, none⟩ : Addr)) (w1 := w) rfl ?_
 unfold loadVar
 refine Ak (Hi ht w) ?_
 exact Na h hn
theorem I6 {t : TypeId} {w : World} {β off n : Nat} {arr : Array Value} {el : TypeId} {fz : Nat × Nat} (ht : D7 P t true = true) (hz : Gs P t n = true) (h : w.heap[β]? = some (.cells arr el fz)) (hn : off + n ≤ arr.size) :
  (Instr.loadAt t (.pointer (some ⟨β, off, none⟩))).run P w = .ok (.agg ((List.range n).map fun j => Au arr (off + j)).toArray) w := by
 unfold Instr.loadAt
 refine Ak (a := (⟨β, off, none⟩ : Addr)) (w1 := w) rfl ?_
 unfold loadVar
 refine Ak (Hi ht w) ?_
 simp only [if_true]
 refine Ak (DM hz w) (Ak (Ia h hn) rfl)
theorem Hb {f : Nat → Value} {n j : Nat} (h : j < n) : Au ((List.range n).map f).toArray j = f j := by
 simp [Au, h]
theorem S5 {x : Operand} {b k s : Nat} {cells : List C} {c : C} {t : TypeId} (hat : At st.env ops i X.n (.load t x) s gs)
  (hx : opd st.env x = some (.e (.one (.ptr b k)))) (ht : D7 P t false = true) (hb : st.bx b = some (.box cells)) (hc : cells[k]? = some c)
  (next : A6 P X ops dr Q r (i + 1) (Cc.upd ⟨gs ++ [(x, .e (.one (.ptr b k)))], [(b, .box cells)], some s, some (.e (.one c)), [], []⟩ st) ((i, ⟨gs ++ [(x, .e (.one (.ptr b k)))], [(b, .box cells)], some s, some (.e (.one c)), [], []⟩) :: log)) : A6 P X ops dr Q (r + 1) i st log := by
 obtain ⟨o, ho, hop, hd, hn, hg, hgp⟩ := hat.out
 refine A6.step next ⟨Al.2 ⟨hgp, hx, trivial⟩, ⟨hb, trivial⟩, trivial⟩ (LR.value ho hg rfl hd.symm (C5 hd hn) ?_)
 intro G st a w hs hpre
 have hx := (Al.1 hpre.r).2.1
 have hb := hpre.b.1
 obtain ⟨β, hβ, hv⟩ : Ed P w G (a.eval x) (.ptr b k) := hs.opd hx
 obtain ⟨β', arr, el, h1, h2, h3, h4⟩ := hs.blk b _ hb
 rw [hβ] at h1; cases h1
 have hk : k < cells.length := by
  rcases Nat.lt_or_ge k cells.length with h | h
  ·exact h
  ·rw [List.getElem?_eq_none h] at hc; cases hc
 refine ⟨Au arr k, w, G, ?_, hs, ?_⟩
 ·simp only [execOp, hop, hv]
  exact Ak (Jj ht h2 (by omega)) rfl
 ·rintro d ⟨⟩
  exact ⟨h4 k c hc, fun b' hb' => hs.liveB b _ hb b' (AU.2 ⟨c, lM hc, hb'⟩)⟩
theorem T5 {x : Operand} {b k n s : Nat} {cells cs : List C} {t : TypeId} (hat : At st.env ops i X.n (.load t x) s gs)
  (hx : opd st.env x = some (.e (.one (.ptr b k)))) (ht : D7 P t true = true) (hz : Gs P t n = true) (hb : st.bx b = some (.box cells)) (hc : (cells.drop k).take n = cs) (hl : cs.length = n)
  (next : A6 P X ops dr Q r (i + 1) (Cc.upd ⟨gs ++ [(x, .e (.one (.ptr b k)))], [(b, .box cells)], some s, some (.e (.agg cs)), [], []⟩ st) ((i, ⟨gs ++ [(x, .e (.one (.ptr b k)))], [(b, .box cells)], some s, some (.e (.agg cs)), [], []⟩) :: log)) : A6 P X ops dr Q (r + 1) i st log := by
 obtain ⟨o, ho, hop, hd, hn, hg, hgp⟩ := hat.out
 refine A6.step next ⟨Al.2 ⟨hgp, hx, trivial⟩, ⟨hb, trivial⟩, trivial⟩ (LR.value ho hg rfl hd.symm (C5 hd hn) ?_)
 intro G st a w hs hpre
 have hx := (Al.1 hpre.r).2.1
 have hb := hpre.b.1
 obtain ⟨β, hβ, hv⟩ : Ed P w G (a.eval x) (.ptr b k) := hs.opd hx
 obtain ⟨β', arr, el, h1, h2, h3, h4⟩ := hs.blk b _ hb
 rw [hβ] at h1; cases h1
 by_cases hn0 : n = 0
 ·subst hn0
  have hcs : cs = [] := List.eq_nil_of_length_eq_zero hl
  subst hcs
  refine ⟨.agg #[], w, G, ?_, hs, ?_⟩
  ·simp only [execOp, hop, hv]
   refine Ak (a := .agg #[]) (w1 := w) ?_ rfl
   unfold Instr.loadAt
   refine Ak (a := (⟨β, k, none⟩ : Addr)) (w1 := w) rfl ?_
   unfold loadVar
   refine Ak (Hi ht w) ?_
   simp only [if_true]
   refine Ak (DM hz w) (Ak (w1 := w) (a := #[]) ?_ rfl)
   simp [loadCells, loadCellsFrom]
  ·rintro d ⟨⟩
   exact ⟨⟨#[], rfl, rfl, fun j c hj => by simp at hj⟩, fun b' hb' => by simp [D.names, E.names, DZ] at hb'⟩
 have hk : k + n ≤ cells.length := by
  have := congrArg List.length hc
  simp at this; omega
 refine ⟨.agg ((List.range n).map fun j => Au arr (k + j)).toArray, w, G, ?_, hs, ?_⟩
 ·simp only [execOp, hop, hv]
  exact Ak (I6 ht hz h2 (by omega)) rfl
 ·rintro d ⟨⟩
  have hget : ∀ (j : Nat) (c : C), cs[j]? = some c → j < n ∧ cells[k + j]? = some c := by
   intro j c hj
   have hjn : j < n := by
    rcases Nat.lt_or_ge j cs.length with h | h
    ·omega
    ·rw [List.getElem?_eq_none h] at hj; cases hj
   refine ⟨hjn, ?_⟩
   rw [← hc, List.getElem?_take_of_lt hjn, List.getElem?_drop] at hj
   exact hj
  refine ⟨⟨_, rfl, by simp [hl], fun j c hj => ?_⟩, fun b' hb' => ?_⟩
  ·obtain ⟨hjn, hj'⟩ := hget j c hj
   rw [Hb hjn]
   exact h4 _ c hj'
  ·obtain ⟨c, hcm, hcb⟩ := AU.1 hb'
   obtain ⟨j, hj⟩ := List.mem_iff_getElem?.1 hcm
   exact hs.liveB b _ hb b' (AU.2 ⟨c, lM (hget j c hj).2, hcb⟩)
end run
end Go.Lift
namespace Go.Lift
open Go.RowKit
variable {P : Program} {X : G7} {ops : Array Oper}
def Ih {α : Type} : List α → Nat → List α → List α
 | cells, _, [] => cells
 | cells, k, c :: cs => Ih (cells.set k c) (k + 1) cs
theorem Gi {α : Type} : ∀ (cs : List α) (cells : List α) (k : Nat), (Ih cells k cs).length = cells.length
 | [], _, _ => rfl
 | c :: cs, cells, k => by rw [Ih, Gi cs]; simp
theorem Jk {α : Type} : ∀ (cs : List α) (cells : List α) (k j : Nat), k + cs.length ≤ cells.length →
  (Ih cells k cs)[j]? = if k ≤ j ∧ j < k + cs.length then cs[j - k]? else cells[j]?
 | [], cells, k, j, _ => by rw [Ih, if_neg (by simp only [List.length_nil]; omega)]
 | c :: cs, cells, k, j, h => by
  simp only [List.length_cons] at h
  rw [Ih, Jk cs _ _ _ (by simp; omega)]
  simp only [List.length_cons]
  by_cases e : j = k
  ·subst e
   rw [if_neg (by omega), if_pos (by omega), List.getElem?_set_self (by omega)]; simp
  ·by_cases e2 : k ≤ j ∧ j < k + (cs.length + 1)
   ·rw [if_pos (by omega), if_pos e2, show j - k = (j - (k + 1)) + 1 from by omega]; simp
   ·rw [if_neg (by omega), if_neg e2, List.getElem?_set_ne (Ne.symm e)]
theorem KI {α : Type} {x : α} : ∀ {cs cells : List α} {k : Nat}, x ∈ Ih cells k cs → x ∈ cells ∨ x ∈ cs
 | [], _, _, h => .inl h
 | c :: cs, cells, k, h => by
  rw [Ih] at h
  rcases KI h with h | h
  ·rcases List.mem_or_eq_of_mem_set h with h | h
   ·exact .inl h
   ·exact .inr (by simp [h])
  ·exact .inr (by simp [h])
theorem Ls {t : TypeId} {w : World} {β off n : Nat} {arr : Array Value} {el : TypeId} {v : Value} (hz : Gs P t n = true) (hv : v.cells.size = n) (h : w.heap[β]? = some (.cells arr el (0, 0))) (hn : off + n ≤ arr.size)
  (h1 : ∀ u, u ∈ v.cells.toList → Gt u = true) :
  (Instr.storeAt t (.pointer (some ⟨β, off, none⟩)) v).run P w = .ok () (GN w β (.cells (E7 arr off v.cells.toList) el (0, 0))) := by
 unfold Instr.storeAt
 refine Ak (a := (⟨β, off, none⟩ : Addr)) (w1 := w) rfl ?_
 unfold storeVar
 refine Ak (DM hz w) ?_
 rw [if_neg (by omega)]
 have := Et (P := P) v.cells.toList w off 0 arr h (by simp [hv]; omega) h1
 simpa using this
theorem Il.ones {w : World} {G : Gh} {v : Value} {y : E} (h : Il P w G v y) : ∀ u, u ∈ v.cells.toList → Gt u = true := by
 intro u hu
 obtain ⟨h1, h2⟩ := h.cells
 obtain ⟨j, hj⟩ := List.mem_iff_getElem?.1 hu
 have hj' : v.cells[j]? = some u := by simpa using hj
 have hlt : j < v.cells.size := by
  rcases Nat.lt_or_ge j v.cells.size with h' | h'
  ·exact h'
  ·rw [Array.getElem?_eq_none h'] at hj'; cases hj'
 have hc : y.cells[j]? = some (y.cells[j]'(by omega)) := by simp [show j < y.cells.length from by omega]
 have := (h2 j _ hc).one
 simpa [Au, hj'] using this
theorem FN {arr : Array Value} {j : Nat} : arr.toList[j]?.getD undef = Au arr j := by simp [Au]
section run
variable {dr : Bool} {Q : St → Prop} {r i : Nat} {st : St} {log : List (Nat × Cc)} {o : Oper} {gs : List (Operand × D)}
theorem Ta {x y : Operand} {b k n : Nat} {cells cells' : List C} {v : E} {t : TypeId} (hat : P4 ops i = some (.store t x y))
  (hx : opd st.env x = some (.e (.one (.ptr b k)))) (hy : opd st.env y = some (.e v)) (hb : st.bx b = some (.box cells)) (hz : Gs P t n = true) (hv : v.cells.length = n) (hk : k + n ≤ cells.length) (hc : Ih cells k v.cells = cells')
  (next : A6 P X ops dr Q r (i + 1) (Cc.upd ⟨[(x, .e (.one (.ptr b k))), (y, .e v)], [(b, .box cells)], none, none, [(b, .box cells')], []⟩ st) ((i, ⟨[(x, .e (.one (.ptr b k))), (y, .e v)], [(b, .box cells)], none, none, [(b, .box cells')], []⟩) :: log)) : A6 P X ops dr Q (r + 1) i st log := by
 obtain ⟨o, ho, hop, hd, hgn⟩ := Ou hat
 have hg : SP ops o [] := .none hgn
 have hgp : EF st.env [] := trivial
 refine A6.step next ⟨⟨hx, hy, trivial⟩, ⟨hb, trivial⟩, trivial⟩ (LR.skip ho hg rfl hd rfl ?_)
 intro G st a w hs hpre
 obtain ⟨hx, hy, _⟩ := hpre.r
 have hb := hpre.b.1
 obtain ⟨β, hβ, hv'⟩ : Ed P w G (a.eval x) (.ptr b k) := hs.opd hx
 have hR : Il P w G (a.eval y) v := hs.opd hy
 have hl := hs.opd_live hy
 obtain ⟨g1, g2⟩ := hR.cells
 obtain ⟨β', arr, el, h1, h2, h3, h4⟩ := hs.blk b _ hb
 rw [hβ] at h1; cases h1
 have hat := hs.at_ok b _ β hb rfl (.inl hβ)
 have hsame : ∀ γ, G.S γ → (GN w β (.cells (E7 arr k (a.eval y).cells.toList) el (0, 0))).heap[γ]? = w.heap[γ]? := fun γ hγ => by
  rw [Ep, if_neg (fun (h9 : γ = β ∧ β < w.heap.size) => hat.2.2 (h9.1 ▸ hγ))]
 have hidx : G.ext G (fun _ => True) := ⟨fun _ h => h, fun _ _ => rfl, fun _ _ => rfl, fun _ _ => rfl⟩
 refine ⟨_, G, ?_, hs.setB (b := b) (k0 := .box cells) (k := .box cells') (o := .cells (E7 arr k (a.eval y).cells.toList) el (0, 0)) hb rfl rfl (.inl hβ) ⟨β, E7 arr k (a.eval y).cells.toList, el, hβ, by rw [Ep, if_pos ⟨rfl, hat.2.1⟩], ?_, ?_⟩ ?_⟩
 ·simp only [execOp, hop, hv']
  exact Ak (Ls (n := n) hz (by omega) h2 (by omega) hR.ones) rfl
 ·rw [GG, h3, ← hc, Gi]
 ·intro j c hj
  rw [← hc, Jk _ _ _ _ (by omega)] at hj
  rw [Fk _ _ _ _ (by simp; omega)]
  simp only [Array.length_toList, g1]
  split at hj
  ·rename_i hin
   rw [if_pos hin, FN]
   exact (g2 _ c hj).mono hidx hsame (fun _ _ => trivial)
  ·rename_i hin
   rw [if_neg hin]
   exact (h4 j c hj).mono hidx hsame (fun _ _ => trivial)
 ·intro c hcn
  rw [← hc] at hcn
  obtain ⟨u, hu, hcu⟩ := AU.1 hcn
  rcases KI hu with h | h
  ·exact hs.liveB b _ hb c (AU.2 ⟨u, h, hcu⟩)
  ·exact hl c (by show c ∈ v.names; rw [← E.cells_names]; exact AU.2 ⟨u, h, hcu⟩)
def T.nrm : T → T
 | .nil0 => .sl []
 | t => t
def Gx.nrm : Gx → Gx
 | .tr u => .tr u.nrm
 | c => c
def C.nrm : C → C
 | .pure t => .pure t.nrm
 | .cls f caps => .cls f (caps.map Gx.nrm)
 | c => c
def E.nrm : E → E
 | .one c => .one c.nrm
 | .agg cs => .agg (cs.map C.nrm)
def D.nrm : D → D
 | .e x => .e x.nrm
 | .tup xs => .tup (xs.map E.nrm)
theorem C1.nrm {w : World} {S : Nat → Prop} {v : Value} {t : T} (h : C1 w S v t) : C1 w S v t.nrm := by
 cases t with
 | nil0 => cases h; exact .nil _ _
 | val u => exact h
 | sl rows => exact h
theorem IL.nrm {w : World} {G : Gh} {v : Value} {c : Gx} (h : IL w G v c) : IL w G v c.nrm := by
 cases c <;> first | exact h | exact C1.nrm h
theorem Ed.nrm {w : World} {G : Gh} {v : Value} {c : C} (h : Ed P w G v c) : Ed P w G v c.nrm := by
 cases c with
 | cls f caps =>
  obtain ⟨vs, h1, h2, h3⟩ := h
  refine ⟨vs, h1, by simp [h2], fun j c hj => ?_⟩
  rw [List.getElem?_map] at hj
  cases hx : caps[j]? with
  | none => rw [hx] at hj; cases hj
  | some c0 => rw [hx] at hj; cases hj; exact (h3 j c0 hx).nrm
 | _ => first | exact h | exact C1.nrm h
theorem Gx.nrm_names (c : Gx) : c.nrm.names = c.names := by cases c <;> rfl
theorem Iv : ∀ cs : List Gx, DQ (cs.map Gx.nrm) = DQ cs
 | [] => rfl
 | c :: cs => by simp [DQ, Gx.nrm_names, Iv cs]
theorem Il.nrm {w : World} {G : Gh} {v : Value} {x : E} (h : Il P w G v x) : Il P w G v x.nrm := by
 cases x with
 | one c => exact Ed.nrm h
 | agg cs =>
  obtain ⟨vs, e, hs, h⟩ := h
  refine ⟨vs, e, by simp [hs], fun j c hj => ?_⟩
  rw [List.getElem?_map] at hj
  cases hx : cs[j]? with
  | none => rw [hx] at hj; cases hj
  | some c0 => rw [hx] at hj; cases hj; exact (h j c0 hx).nrm
theorem F9.nrm {w : World} {G : Gh} {v : Value} {d : D} (h : F9 P w G v d) : F9 P w G v d.nrm := by
 cases d with
 | e x => exact Il.nrm h
 | tup xs =>
  obtain ⟨vs, e, hs, h⟩ := h
  refine ⟨vs, e, by simp [hs], fun j c hj => ?_⟩
  rw [List.getElem?_map] at hj
  cases hx : xs[j]? with
  | none => rw [hx] at hj; cases hj
  | some c0 => rw [hx] at hj; cases hj; exact (h j c0 hx).nrm
def C.ts : C → Option T
 | .pure t => some t.nrm
 | _ => none
def E.ts : E → Option (List T)
 | .one c => match c.ts with
  | some t => some [t]
  | none => none
 | .agg cs => cs.mapM C.ts
theorem PB {α β : Type} {f : α → Option β} : ∀ {l : List α} {l' : List β}, l.mapM f = some l' → l'.length = l.length ∧ ∀ (j : Nat) (y : β), l'[j]? = some y → ∃ x, l[j]? = some x ∧ f x = some y
 | [], l', h => by simp at h; subst h; exact ⟨rfl, fun j y hy => by simp at hy⟩
 | a :: l, l', h => by
  rw [List.mapM_cons] at h
  cases ha : f a with
  | none => rw [ha] at h; simp at h
  | some b =>
   rw [ha] at h
   cases hl : l.mapM f with
   | none => rw [hl] at h; simp at h
   | some bs =>
    rw [hl] at h; simp at h; subst h
    obtain ⟨h1, h2⟩ := PB hl
    refine ⟨by simp [h1], fun j y hy => ?_⟩
    cases j with
    | zero => simp at hy; subst hy; exact ⟨a, rfl, ha⟩
    | succ j => exact h2 j y (by simpa using hy)
theorem Ed.ts {w : World} {G : Gh} {v : Value} {c : C} {t : T} (h : Ed P w G v c) (ht : c.ts = some t) : C1 w G.S v t := by
 cases c <;> first | (cases ht; done) | (cases ht; exact C1.nrm h)
theorem Il.ts {w : World} {G : Gh} {v : Value} {y : E} {ts : List T} (h : Il P w G v y) (ht : y.ts = some ts) :
  v.cells.size = ts.length ∧ ∀ (j : Nat) (t : T), ts[j]? = some t → C1 w G.S (Au v.cells j) t := by
 obtain ⟨h1, h2⟩ := h.cells
 cases y with
 | one c =>
  simp only [E.ts] at ht
  cases hc : c.ts with
  | none => rw [hc] at ht; cases ht
  | some t =>
   rw [hc] at ht; cases ht
   refine ⟨h1, fun j u hj => ?_⟩
   cases j with
   | zero => simp at hj; subst hj; exact (h2 0 c rfl).ts hc
   | succ j => simp at hj
 | agg cs =>
  obtain ⟨g1, g2⟩ := PB (show cs.mapM C.ts = some ts from ht)
  refine ⟨by rw [h1, g1]; rfl, fun j t hj => ?_⟩
  obtain ⟨c, hc1, hc2⟩ := g2 j t hj
  exact (h2 j c hc1).ts hc2
theorem Ag {α β : Type} {f : α → β} {l : List α} {k : Nat} {x : α} (h : l[k]? = some x) : (l.map f)[k]? = some (f x) := by
 rw [List.getElem?_map, h]; rfl
theorem AF {α : Type} {l : List α} {k : Nat} {x : α} (h : l[k]? = some x) : k < l.length := by
 rcases Nat.lt_or_ge k l.length with h' | h'
 ·exact h'
 ·rw [List.getElem?_eq_none h'] at h; cases h
theorem N1 {α : Type} {l : List α} {k j : Nat} {y x : α} (h : (l.set k y)[j]? = some x) : (j = k ∧ x = y) ∨ (j ≠ k ∧ l[j]? = some x) := by
 rw [List.getElem?_set] at h
 split at h
 ·rename_i e
  split at h
  ·exact .inl ⟨e.symm, by simpa using h.symm⟩
  ·cases h
 ·rename_i e
  exact .inr ⟨Ne.symm e, h⟩
theorem Ea {x y : Operand} {b e ix k n : Nat} {rows rows' : List (List T)} {row : List T} {ts : List T} {v : E} {t : TypeId} (hat : P4 ops i = some (.store t x y))
  (hx : opd st.env x = some (.e (.one (.eptr b e ix k)))) (hy : opd st.env y = some (.e v)) (hb : st.bx b = some (.vec e rows)) (hrow : rows[ix]? = some row) (hts : v.ts = some ts) (hz : Gs P t n = true) (hv : ts.length = n) (hk : k + n ≤ row.length)
  (hc : rows.set ix (Ih row k ts) = rows')
  (next : A6 P X ops dr Q r (i + 1) (Cc.upd ⟨[(x, .e (.one (.eptr b e ix k))), (y, .e v)], [(b, .vec e rows)], none, none, [(b, .vec e rows')], []⟩ st) ((i, ⟨[(x, .e (.one (.eptr b e ix k))), (y, .e v)], [(b, .vec e rows)], none, none, [(b, .vec e rows')], []⟩) :: log)) : A6 P X ops dr Q (r + 1) i st log := by
 obtain ⟨o, ho, hop, hd, hgn⟩ := Ou hat
 have hg : SP ops o [] := .none hgn
 have hgp : EF st.env [] := trivial
 refine A6.step next ⟨⟨hx, hy, trivial⟩, ⟨hb, trivial⟩, trivial⟩ (LR.skip ho hg rfl hd rfl ?_)
 intro G st a w hs hpre
 obtain ⟨hx, hy, _⟩ := hpre.r
 have hb := hpre.b.1
 obtain ⟨β, hβ, hv'⟩ : Ed P w G (a.eval x) (.eptr b e ix k) := hs.opd hx
 have hR : Il P w G (a.eval y) v := hs.opd hy
 obtain ⟨g1, g2⟩ := hR.ts hts
 rcases hs.blk b _ hb with ⟨_, _, h0, _⟩ | ⟨β', cap, arr, el, h0, h1, h2, h3, h4, h5, h6⟩
 ·subst h0; simp at hrow
 rw [hβ] at h0; cases h0
 have hat := hs.at_ok b _ β hb rfl (.inl hβ)
 have hsame : ∀ γ, G.S γ → (GN w β (.cells (E7 arr (ix * e + k) (a.eval y).cells.toList) el (0, 0))).heap[γ]? = w.heap[γ]? := fun γ hγ => by
  rw [Ep, if_neg (fun (h9 : γ = β ∧ β < w.heap.size) => hat.2.2 (h9.1 ▸ hγ))]
 have hre := h5 ix row hrow
 have hix := AF hrow
 have hbnd : ix * e + e ≤ arr.size := by
  rw [h4, ← Nat.succ_mul]; exact Nat.mul_le_mul_right e (by omega)
 have hoff : ix * e + k + n ≤ arr.size := by omega
 have hlen : ((a.eval y).cells.toList).length = n := by rw [Array.length_toList, g1, hv]
 refine ⟨_, G, ?_, hs.setB (b := b) (k0 := .vec e rows) (k := .vec e rows') (o := .cells (E7 arr (ix * e + k) (a.eval y).cells.toList) el (0, 0)) hb rfl rfl (.inl hβ)
  (.inr ⟨β, cap, E7 arr (ix * e + k) (a.eval y).cells.toList, el, hβ, by rw [h1, ← hc]; simp, by rw [Ep, if_pos ⟨rfl, hat.2.1⟩], by rw [← hc]; simpa using h3, by rw [GG, h4], ?_, ?_⟩) (fun c hcn => by cases hcn)⟩
 ·simp only [execOp, hop, hv']
  exact Ak (Ls (n := n) hz (by omega) h2 hoff hR.ones) rfl
 ·intro j row' hj
  rw [← hc] at hj
  rcases N1 hj with ⟨_, rfl⟩ | ⟨_, hj⟩
  ·rw [Gi]; exact hre
  ·exact h5 j row' hj
 ·intro j row' m u hj hm
  rw [← hc] at hj
  rw [Fk _ _ _ _ (by rw [hlen]; exact hoff), hlen]
  rcases N1 hj with ⟨rfl, rfl⟩ | ⟨hne, hj⟩
  ·have hm2 := AF hm
   rw [Gi] at hm2
   rw [Jk _ _ _ _ (by omega)] at hm
   split at hm
   ·rename_i hin
    rw [if_pos (by omega), show j * e + m - (j * e + k) = m - k from by omega, FN]
    exact (g2 (m - k) u hm).mono hsame fun _ h => h
   ·rename_i hin
    rw [if_neg (by omega)]
    exact (h6 j row m u hrow hm).mono hsame fun _ h => h
  ·have hm2 := AF hm
   have hre' := h5 j row' hj
   have hlt : j < ix ∨ ix < j := by omega
   rw [if_neg ?_]
   ·exact (h6 j row' m u hj hm).mono hsame fun _ h => h
   ·rcases hlt with hlt | hlt
    ·have : j * e + e ≤ ix * e := by rw [← Nat.succ_mul]; exact Nat.mul_le_mul_right e hlt
     omega
    ·have : ix * e + e ≤ j * e := by rw [← Nat.succ_mul]; exact Nat.mul_le_mul_right e hlt
     omega
theorem SC {x : Operand} {s : Nat} {ts : List T} {u : T} {t : TypeId} (hat : At st.env ops i X.n (.load t x) s gs)
  (hx : opd st.env x = some (.e (.one (.rop ts)))) (ht : D7 P t false = true) (hc : ts[0]? = some u)
  (next : A6 P X ops dr Q r (i + 1) (Cc.upd ⟨gs ++ [(x, .e (.one (.rop ts)))], [], some s, some (one u), [], []⟩ st) ((i, ⟨gs ++ [(x, .e (.one (.rop ts)))], [], some s, some (one u), [], []⟩) :: log)) : A6 P X ops dr Q (r + 1) i st log := by
 obtain ⟨o, ho, hop, hd, hn, hg, hgp⟩ := hat.out
 refine A6.step next ⟨Al.2 ⟨hgp, hx, trivial⟩, trivial, trivial⟩ (LR.value ho hg rfl hd.symm (C5 hd hn) ?_)
 intro G st a w hs hpre
 have hx := (Al.1 hpre.r).2.1
 obtain ⟨β, off, arr, el, fz, hv, h1, h2, h3, h4⟩ : Ed P w G (a.eval x) (.rop ts) := hs.opd hx
 have hk := AF hc
 refine ⟨Au arr off, w, G, ?_, hs, ?_⟩
 ·simp only [execOp, hop, hv]
  exact Ak (Jj ht h2 (by omega)) rfl
 ·rintro d ⟨⟩
  exact ⟨h4 0 u hc, fun b hb => by cases hb⟩
theorem Mr {w : World} {G : Gh} {ts : List T} {f : Nat → Value} {n : Nat} (hn : ts.length = n) (h : ∀ (j : Nat) (t : T), ts[j]? = some t → C1 w G.S (f j) t) :
  F9 P w G (.agg ((List.range n).map f).toArray) (.e (.agg (ts.map C.pure))) := by
 refine ⟨_, rfl, by simp [hn], fun j c hj => ?_⟩
 rw [List.getElem?_map] at hj
 cases hx : ts[j]? with
 | none => rw [hx] at hj; cases hj
 | some t =>
  rw [hx] at hj; cases hj
  rw [Hb (by have := AF hx; omega)]
  exact h j t hx
theorem Lw {ts : List T} : DZ (ts.map C.pure) = [] := by
 induction ts with
 | nil => rfl
 | cons t ts ih => simp only [List.map_cons, DZ, C.names, ih, List.append_nil]
theorem R5 {x : Operand} {s n : Nat} {ts us : List T} {t : TypeId} (hat : At st.env ops i X.n (.load t x) s gs)
  (hx : opd st.env x = some (.e (.one (.rop ts)))) (ht : D7 P t true = true) (hz : Gs P t n = true) (hc : ts.take n = us) (hl : us.length = n)
  (next : A6 P X ops dr Q r (i + 1) (Cc.upd ⟨gs ++ [(x, .e (.one (.rop ts)))], [], some s, some (.e (.agg (us.map C.pure))), [], []⟩ st) ((i, ⟨gs ++ [(x, .e (.one (.rop ts)))], [], some s, some (.e (.agg (us.map C.pure))), [], []⟩) :: log)) : A6 P X ops dr Q (r + 1) i st log := by
 obtain ⟨o, ho, hop, hd, hn, hg, hgp⟩ := hat.out
 refine A6.step next ⟨Al.2 ⟨hgp, hx, trivial⟩, trivial, trivial⟩ (LR.value ho hg rfl hd.symm (C5 hd hn) ?_)
 intro G st a w hs hpre
 have hx := (Al.1 hpre.r).2.1
 obtain ⟨β, off, arr, el, fz, hv, h1, h2, h3, h4⟩ : Ed P w G (a.eval x) (.rop ts) := hs.opd hx
 have hk : n ≤ ts.length := by
  have := congrArg List.length hc
  simp at this; omega
 refine ⟨.agg ((List.range n).map fun j => Au arr (off + j)).toArray, w, G, ?_, hs, ?_⟩
 ·simp only [execOp, hop, hv]
  exact Ak (I6 ht hz h2 (by omega)) rfl
 ·rintro d ⟨⟩
  refine ⟨Mr hl fun j u hj => ?_, fun b hb => ?_⟩
  ·have hjn := AF hj
   rw [← hc, List.getElem?_take_of_lt (by omega)] at hj
   exact h4 j u hj
  ·have hb' : b ∈ DZ (us.map C.pure) := hb
   rw [Lw] at hb'; cases hb'
theorem Pd {x : Operand} {b e ix k s : Nat} {rows : List (List T)} {row : List T} {u : T} {t : TypeId} (hat : At st.env ops i X.n (.load t x) s gs)
  (hx : opd st.env x = some (.e (.one (.eptr b e ix k)))) (ht : D7 P t false = true) (hb : st.bx b = some (.vec e rows)) (hrow : rows[ix]? = some row) (hc : row[k]? = some u)
  (next : A6 P X ops dr Q r (i + 1) (Cc.upd ⟨gs ++ [(x, .e (.one (.eptr b e ix k)))], [(b, .vec e rows)], some s, some (one u), [], []⟩ st) ((i, ⟨gs ++ [(x, .e (.one (.eptr b e ix k)))], [(b, .vec e rows)], some s, some (one u), [], []⟩) :: log)) : A6 P X ops dr Q (r + 1) i st log := by
 obtain ⟨o, ho, hop, hd, hn, hg, hgp⟩ := hat.out
 refine A6.step next ⟨Al.2 ⟨hgp, hx, trivial⟩, ⟨hb, trivial⟩, trivial⟩ (LR.value ho hg rfl hd.symm (C5 hd hn) ?_)
 intro G st a w hs hpre
 have hx := (Al.1 hpre.r).2.1
 have hb := hpre.b.1
 obtain ⟨β, hβ, hv⟩ : Ed P w G (a.eval x) (.eptr b e ix k) := hs.opd hx
 rcases hs.blk b _ hb with ⟨_, _, h0, _⟩ | ⟨β', cap, arr, el, h0, h1, h2, h3, h4, h5, h6⟩
 ·subst h0; simp at hrow
 rw [hβ] at h0; cases h0
 have hre := h5 ix row hrow
 have hix := AF hrow
 have hk := AF hc
 have hbnd : ix * e + e ≤ arr.size := by
  rw [h4, ← Nat.succ_mul]; exact Nat.mul_le_mul_right e (by omega)
 refine ⟨Au arr (ix * e + k), w, G, ?_, hs, ?_⟩
 ·simp only [execOp, hop, hv]
  exact Ak (Jj ht h2 (by omega)) rfl
 ·rintro d ⟨⟩
  exact ⟨h6 ix row k u hrow hc, fun b hb => by cases hb⟩
theorem Sg {x : Operand} {b e ix s : Nat} {rows : List (List T)} {row : List T} {t : TypeId} (hat : At st.env ops i X.n (.load t x) s gs)
  (hx : opd st.env x = some (.e (.one (.eptr b e ix 0)))) (ht : D7 P t true = true) (hz : Gs P t e = true) (hb : st.bx b = some (.vec e rows)) (hrow : rows[ix]? = some row)
  (next : A6 P X ops dr Q r (i + 1) (Cc.upd ⟨gs ++ [(x, .e (.one (.eptr b e ix 0)))], [(b, .vec e rows)], some s, some (.e (.agg (row.map C.pure))), [], []⟩ st) ((i, ⟨gs ++ [(x, .e (.one (.eptr b e ix 0)))], [(b, .vec e rows)], some s, some (.e (.agg (row.map C.pure))), [], []⟩) :: log)) : A6 P X ops dr Q (r + 1) i st log := by
 obtain ⟨o, ho, hop, hd, hn, hg, hgp⟩ := hat.out
 refine A6.step next ⟨Al.2 ⟨hgp, hx, trivial⟩, ⟨hb, trivial⟩, trivial⟩ (LR.value ho hg rfl hd.symm (C5 hd hn) ?_)
 intro G st a w hs hpre
 have hx := (Al.1 hpre.r).2.1
 have hb := hpre.b.1
 obtain ⟨β, hβ, hv⟩ : Ed P w G (a.eval x) (.eptr b e ix 0) := hs.opd hx
 rcases hs.blk b _ hb with ⟨_, _, h0, _⟩ | ⟨β', cap, arr, el, h0, h1, h2, h3, h4, h5, h6⟩
 ·subst h0; simp at hrow
 rw [hβ] at h0; cases h0
 have hre := h5 ix row hrow
 have hix := AF hrow
 have hbnd : ix * e + e ≤ arr.size := by
  rw [h4, ← Nat.succ_mul]; exact Nat.mul_le_mul_right e (by omega)
 refine ⟨.agg ((List.range e).map fun j => Au arr (ix * e + 0 + j)).toArray, w, G, ?_, hs, ?_⟩
 ·simp only [execOp, hop, hv]
  exact Ak (I6 ht hz h2 (by omega)) rfl
 ·rintro d ⟨⟩
  refine ⟨Mr hre fun j u hj => h6 ix row j u hrow hj, fun b hb => ?_⟩
  have hb' : b ∈ DZ (row.map C.pure) := hb
  rw [Lw] at hb'; cases hb'
theorem Lt {s f off : Nat} {w : World} {β k : Nat} (h : CH P s f off = true) : (Instr.fieldAt s (.pointer (some ⟨β, k, none⟩)) f).run P w = .ok (.pointer (some ⟨β, k + off, none⟩)) w := by
 unfold CH at h
 split at h
 ·rename_i fs hu
  split at h
  ·rename_i fl hf
   simp only [Bool.and_eq_true, beq_iff_eq] at h
   obtain ⟨h1, h2⟩ := h
   split at h2
   ·rename_i inf hi
    have hne : inf.size ≠ 0 := by simpa using h2
    unfold Instr.fieldAt
    refine Ak (AK hu w) ?_
    simp only [hf]
    refine Ak (a := (⟨β, k, none⟩ : Addr)) (w1 := w) rfl ?_
    refine Ak (a := (⟨β, k + off, none⟩ : Addr)) (w1 := w) ?_ rfl
    unfold fieldPlace
    refine Ak (a := inf.size) (w1 := w) (by simp [sizeOf, typeInfo, program, Sem.run, hi]) ?_
    rw [if_neg hne, Addr.add_mk, h1]; rfl
   ·cases h2
  ·cases h
 ·cases h
theorem OW {x : Operand} {b k f off s : Nat} {t : TypeId} (hat : At st.env ops i X.n (.fieldAddr t x f) s gs)
  (hx : opd st.env x = some (.e (.one (.ptr b k)))) (hf : CH P t f off = true)
  (next : A6 P X ops dr Q r (i + 1) (Cc.upd ⟨gs ++ [(x, .e (.one (.ptr b k)))], [], some s, some (.e (.one (.ptr b (k + off)))), [], []⟩ st) ((i, ⟨gs ++ [(x, .e (.one (.ptr b k)))], [], some s, some (.e (.one (.ptr b (k + off)))), [], []⟩) :: log)) : A6 P X ops dr Q (r + 1) i st log := by
 obtain ⟨o, ho, hop, hd, hn, hg, hgp⟩ := hat.out
 refine A6.step next ⟨Al.2 ⟨hgp, hx, trivial⟩, trivial, trivial⟩ (LR.value ho hg rfl hd.symm (C5 hd hn) ?_)
 intro G st a w hs hpre
 have hx := (Al.1 hpre.r).2.1
 obtain ⟨β, hβ, hv⟩ : Ed P w G (a.eval x) (.ptr b k) := hs.opd hx
 refine ⟨_, w, G, by simp only [execOp, hop, hv]; exact Ak (Lt hf) rfl, hs, ?_⟩
 rintro d ⟨⟩
 exact ⟨⟨β, hβ, rfl⟩, fun b' hb' => hs.opd_live hx b' (by simpa [D.names, E.names, C.names] using hb')⟩
theorem NU {x : Operand} {ts us : List T} {f off s : Nat} {t : TypeId} (hat : At st.env ops i X.n (.fieldAddr t x f) s gs)
  (hx : opd st.env x = some (.e (.one (.rop ts)))) (hf : CH P t f off = true) (hl : off ≤ ts.length) (hu : ts.drop off = us)
  (next : A6 P X ops dr Q r (i + 1) (Cc.upd ⟨gs ++ [(x, .e (.one (.rop ts)))], [], some s, some (.e (.one (.rop us))), [], []⟩ st) ((i, ⟨gs ++ [(x, .e (.one (.rop ts)))], [], some s, some (.e (.one (.rop us))), [], []⟩) :: log)) : A6 P X ops dr Q (r + 1) i st log := by
 obtain ⟨o, ho, hop, hd, hn, hg, hgp⟩ := hat.out
 refine A6.step next ⟨Al.2 ⟨hgp, hx, trivial⟩, trivial, trivial⟩ (LR.value ho hg rfl hd.symm (C5 hd hn) ?_)
 intro G st a w hs hpre
 have hx := (Al.1 hpre.r).2.1
 obtain ⟨β, k, arr, el, fz, hv, h1, h2, h3, h4⟩ : Ed P w G (a.eval x) (.rop ts) := hs.opd hx
 refine ⟨_, w, G, by simp only [execOp, hop, hv]; exact Ak (Lt hf) rfl, hs, ?_⟩
 rintro d ⟨⟩
 subst hu
 refine ⟨⟨β, k + off, arr, el, fz, rfl, h1, h2, by simp; omega, fun j u hj => ?_⟩, fun b hb => by cases hb⟩
 rw [List.getElem?_drop] at hj
 rw [Nat.add_assoc]
 exact h4 _ u hj
theorem Ld {t el e : Nat} {w : World} {β off len cap : Nat} {k : IntKind} {n : Int} (ht : sliceB P t el = true) (hz : Gs P el e = true) (h0 : 0 ≤ n) (h1 : n.toNat < len) :
  (Instr.indexAt t (.slice (some ⟨β, off, none⟩) len cap) (.int k n)).run P w = .ok (.pointer (some ⟨β, off + n.toNat * e, none⟩)) w := by
 unfold sliceB at ht
 split at ht
 ·rename_i e' hu
  have : e' = el := by simpa using ht
  subst this
  unfold Instr.indexAt
  refine Ak (a := (k, n)) (w1 := w) rfl ?_
  refine Ak (AK hu w) ?_
  refine Ak (a := (some (⟨β, off, none⟩ : Addr), len, e')) (w1 := w) rfl ?_
  refine Ak (AK hu w) ?_
  have hc : 0 ≤ n ∧ n < (len : Int) := ⟨h0, by omega⟩
  simp only [hc, and_self, if_true]
  refine Ak (DM hz w) ?_
  rw [Addr.add_mk]; rfl
 ·cases ht
end run
end Go.Lift
namespace Go.Lift
open List renaming mem_of_getElem? → lM
open Go.RowKit
variable {P : Program} {X : G7} {ops : Array Oper}
section run
variable {dr : Bool} {Q : St → Prop} {r i : Nat} {st : St} {log : List (Nat × Cc)} {o : Oper} {gs : List (Operand × D)}
theorem Ef {w : World} {S : Nat → Prop} {v u : Value} (h : C1 w S v (.val u)) : v = u := by cases h; rfl
theorem Th {x y : Operand} {s e : Nat} {rows : List (List T)} {row : List T} {t el : TypeId} {k : IntKind} {n : Int} (hat : At st.env ops i X.n (.indexAddr t x y) s gs)
  (hx : opd st.env x = some (one (.sl rows))) (hy : opd st.env y = some (vD (.int k n))) (ht : sliceB P t el = true) (hz : Gs P el e = true) (h0 : 0 ≤ n) (hrow : rows[n.toNat]? = some row) (hl : row.length = e)
  (next : A6 P X ops dr Q r (i + 1) (Cc.upd ⟨gs ++ [(x, one (.sl rows)), (y, vD (.int k n))], [], some s, some (.e (.one (.rop row))), [], []⟩ st) ((i, ⟨gs ++ [(x, one (.sl rows)), (y, vD (.int k n))], [], some s, some (.e (.one (.rop row))), [], []⟩) :: log)) : A6 P X ops dr Q (r + 1) i st log := by
 obtain ⟨o, ho, hop, hd, hn, hg, hgp⟩ := hat.out
 refine A6.step next ⟨Al.2 ⟨hgp, hx, hy, trivial⟩, trivial, trivial⟩ (LR.value ho hg rfl hd.symm (C5 hd hn) ?_)
 intro G st a w hs hpre
 obtain ⟨hx, hy, _⟩ := (Al.1 hpre.r).2
 have hR : C1 w G.S (a.eval x) (.sl rows) := hs.opd hx
 have hY : a.eval y = .int k n := Ef (hs.opd hy : C1 w G.S (a.eval y) (.val _))
 have hix := AF hrow
 generalize hv : a.eval x = v at hR
 cases hR with
 | nil => simp at hrow
 | sl β off cap e' arr el' fz rows h1 h2 h3 h4 h5 h6 =>
  have he : e' = e := by rw [← hl]; exact (h5 _ row hrow).symm
  subst he
  have hbnd : n.toNat * e' + e' ≤ rows.length * e' := by rw [← Nat.succ_mul]; exact Nat.mul_le_mul_right e' hix
  refine ⟨_, w, G, by simp only [execOp, hop, hv, hY]; exact Ak (Ld ht hz h0 hix) rfl, hs, ?_⟩
  rintro d ⟨⟩
  exact ⟨⟨β, _, arr, el', fz, rfl, h1, h2, by omega, fun j u hj => h6 _ row j u hrow hj⟩, fun b hb => by cases hb⟩
theorem Pv {x y : Operand} {s e b : Nat} {rows : List (List T)} {row : List T} {t el : TypeId} {k : IntKind} {n : Int} (hat : At st.env ops i X.n (.indexAddr t x y) s gs)
  (hx : opd st.env x = some (.e (.one (.own b)))) (hy : opd st.env y = some (vD (.int k n))) (hb : st.bx b = some (.vec e rows)) (ht : sliceB P t el = true) (hz : Gs P el e = true) (h0 : 0 ≤ n) (hrow : rows[n.toNat]? = some row)
  (next : A6 P X ops dr Q r (i + 1) (Cc.upd ⟨gs ++ [(x, .e (.one (.own b))), (y, vD (.int k n))], [(b, .vec e rows)], some s, some (.e (.one (.eptr b e n.toNat 0))), [], []⟩ st) ((i, ⟨gs ++ [(x, .e (.one (.own b))), (y, vD (.int k n))], [(b, .vec e rows)], some s, some (.e (.one (.eptr b e n.toNat 0))), [], []⟩) :: log)) : A6 P X ops dr Q (r + 1) i st log := by
 obtain ⟨o, ho, hop, hd, hn, hg, hgp⟩ := hat.out
 refine A6.step next ⟨Al.2 ⟨hgp, hx, hy, trivial⟩, ⟨hb, trivial⟩, trivial⟩ (LR.value ho hg rfl hd.symm (C5 hd hn) ?_)
 intro G st a w hs hpre
 obtain ⟨hx, hy, _⟩ := (Al.1 hpre.r).2
 have hb := hpre.b.1
 obtain ⟨hR, _⟩ : Ed P w G (a.eval x) (.own b) := hs.opd hx
 have hY : a.eval y = .int k n := Ef (hs.opd hy : C1 w G.S (a.eval y) (.val _))
 have hix := AF hrow
 rcases hs.blk b _ hb with ⟨_, _, h0', _⟩ | ⟨β, cap, arr, el', g0, g1, g2, g3, g4, g5, g6⟩
 ·subst h0'; simp at hrow
 ·refine ⟨_, w, G, by simp only [execOp, hop, hR, g1, hY]; exact Ak (Ld ht hz h0 hix) rfl, hs, ?_⟩
  rintro d ⟨⟩
  exact ⟨⟨β, g0, by simp⟩, fun b' hb' => hs.opd_live hx b' (by simpa [D.names, E.names, C.names] using hb')⟩
theorem Kp {t el : TypeId} {w : World} {a : Option Addr} {n c : Nat} {ty : TypeId} (ht : sliceB P t el = true) : (Builtin.len_ #[t] ty #[.slice a n c]).run P w = .ok (goInt n) w := by
 unfold sliceB at ht
 split at ht
 ·rename_i e' hu
  unfold Builtin.len_
  refine Ak (AK hu w) ?_
  rfl
 ·cases ht
theorem Fm {b : Builtin} {as : Array Operand} {ts : Array TypeId} {ρ : Operand → Value} {ty : TypeId} {w w' : World} {n : Next} (h : ∀ cs, (builtin b ts ty cs (as.map ρ)).run P w = .ok n w') :
  (do let d ← resolve ρ ⟨.builtin b, as, ts⟩ ty; invoke d.target d.args : Sem Next).run P w = .ok n w' := by
 simp only [resolve]
 exact h _
inductive Ph : D → List (Nat × Bg) → Nat → Prop where
 | own (b e : Nat) (rows : List (List T)) : Ph (.e (.one (.own b))) [(b, .vec e rows)] rows.length
 | sl (rows : List (List T)) : Ph (one (.sl rows)) [] rows.length
 | nil : Ph (one .nil0) [] 0
theorem CZ.lenOf {G : Gh} {a : Act} {w : World} (h : CZ P X G st a w) {x : Operand} {d : D} {rb : List (Nat × Bg)} {n : Nat} (hx : Lift.opd st.env x = some d) (hl : Ph d rb n) (hb : FX st.bx rb) :
  ∃ b c, a.eval x = .slice b n c := by
 have hR := h.opd hx
 cases hl with
 | own b e rows =>
  obtain ⟨hR, _⟩ : Ed P w G (a.eval x) (.own b) := hR
  rcases h.blk b _ hb.1 with ⟨a', h1, h0, _⟩ | ⟨β, cap, arr, el', g0, g1, _⟩
  ·subst h0; exact ⟨_, _, hR.trans h1⟩
  ·exact ⟨_, _, hR.trans g1⟩
 | sl rows =>
  have hR : C1 w G.S (a.eval x) (.sl rows) := hR
  generalize a.eval x = v at hR
  cases hR with
  | nil a cap => exact ⟨_, _, rfl⟩
  | sl β off cap e' arr el' fz rows h1 h2 h3 h4 h5 h6 => exact ⟨_, _, rfl⟩
 | nil =>
  have hR : C1 w G.S (a.eval x) .nil0 := hR
  generalize a.eval x = v at hR
  cases hR; exact ⟨_, _, rfl⟩
theorem Un {x : Operand} {d : D} {s n0 n : Nat} {t el : TypeId} {rb : List (Nat × Bg)} (hat : At st.env ops i X.n (.call ⟨.builtin .len, #[x], #[t]⟩) s gs)
  (hx : opd st.env x = some d) (hl : Ph d rb n0) (hb : FX st.bx rb) (hln : n0 = n) (ht : sliceB P t el = true)
  (next : A6 P X ops dr Q r (i + 1) (Cc.upd ⟨gs ++ [(x, d)], rb, some s, some (vD (.int .i64 n)), [], []⟩ st) ((i, ⟨gs ++ [(x, d)], rb, some s, some (vD (.int .i64 n)), [], []⟩) :: log)) : A6 P X ops dr Q (r + 1) i st log := by
 subst hln
 obtain ⟨o, ho, hop, hd, hn, hg, hgp⟩ := hat.out
 refine A6.step next ⟨Al.2 ⟨hgp, hx, trivial⟩, hb, trivial⟩ (LR.value ho hg rfl hd.symm (C5 hd hn) ?_)
 intro G st a w hs hpre
 obtain ⟨hx, _⟩ := (Al.1 hpre.r).2
 obtain ⟨b, c, he⟩ := hs.lenOf hx hl hpre.b
 refine ⟨.int .i64 n0, w, G, ?_, hs, ?_⟩
 ·simp only [execOp, hop]
  refine Fm fun cs => ?_
  simp only [List.map_toArray, List.map_cons, List.map_nil, builtin, he]
  exact Ak (Kp ht) rfl
 ·rintro d ⟨⟩
  exact ⟨.val _ rfl, fun b hb => by cases hb⟩
def Fi (P : Program) (op : BinOp) (xt : TypeId) (x y : Operand) (va vb v : Value) : Prop := ∀ w : World, (do eqGuard op xt x y va vb; binOp op xt va vb : Sem Value).run P w = .ok v w
def Ue (P : Program) (op : UnOp) (va v : Value) : Prop := ∀ w : World, (Op.unary op va).run P w = .ok v w
def Qy (P : Program) (s t : TypeId) (va v : Value) : Prop := ∀ w : World, (convert s t va).run P w = .ok v w
theorem Gp {op : BinOp} {xt yt : TypeId} {x y : Operand} {va vb v : Value} {s : Nat} (hat : At st.env ops i X.n (.binOp op xt x y yt) s gs)
  (hx : opd st.env x = some (vD va)) (hy : opd st.env y = some (vD vb)) (hrun : Fi P op xt x y va vb v) (h1 : Gt v = true)
  (next : A6 P X ops dr Q r (i + 1) (Cc.upd ⟨gs ++ [(x, vD va), (y, vD vb)], [], some s, some (vD v), [], []⟩ st) ((i, ⟨gs ++ [(x, vD va), (y, vD vb)], [], some s, some (vD v), [], []⟩) :: log)) : A6 P X ops dr Q (r + 1) i st log := by
 obtain ⟨o, ho, hop, hd, hn, hg, hgp⟩ := hat.out
 refine A6.step next ⟨Al.2 ⟨hgp, hx, hy, trivial⟩, trivial, trivial⟩ (LR.value ho hg rfl hd.symm (C5 hd hn) ?_)
 intro G st a w hs hpre
 obtain ⟨hx, hy, _⟩ := (Al.1 hpre.r).2
 have hX : a.eval x = va := Ef (hs.opd hx : C1 w G.S (a.eval x) (.val _))
 have hY : a.eval y = vb := Ef (hs.opd hy : C1 w G.S (a.eval y) (.val _))
 refine ⟨v, w, G, ?_, hs, ?_⟩
 ·simp only [execOp, hop, hX, hY]
  exact Ak (hrun w) rfl
 ·rintro d ⟨⟩
  exact ⟨.val _ h1, fun b hb => by cases hb⟩
theorem WF {op : UnOp} {xt : TypeId} {x : Operand} {va v : Value} {s : Nat} (hat : At st.env ops i X.n (.unOp op xt x) s gs)
  (hx : opd st.env x = some (vD va)) (hrun : Ue P op va v) (h1 : Gt v = true)
  (next : A6 P X ops dr Q r (i + 1) (Cc.upd ⟨gs ++ [(x, vD va)], [], some s, some (vD v), [], []⟩ st) ((i, ⟨gs ++ [(x, vD va)], [], some s, some (vD v), [], []⟩) :: log)) : A6 P X ops dr Q (r + 1) i st log := by
 obtain ⟨o, ho, hop, hd, hn, hg, hgp⟩ := hat.out
 refine A6.step next ⟨Al.2 ⟨hgp, hx, trivial⟩, trivial, trivial⟩ (LR.value ho hg rfl hd.symm (C5 hd hn) ?_)
 intro G st a w hs hpre
 obtain ⟨hx, _⟩ := (Al.1 hpre.r).2
 have hX : a.eval x = va := Ef (hs.opd hx : C1 w G.S (a.eval x) (.val _))
 refine ⟨v, w, G, ?_, hs, ?_⟩
 ·simp only [execOp, hop, hX]
  exact Ak (hrun w) rfl
 ·rintro d ⟨⟩
  exact ⟨.val _ h1, fun b hb => by cases hb⟩
theorem UH {xt yt : TypeId} {x : Operand} {va v : Value} {s : Nat} (hat : At st.env ops i X.n (.convert xt yt x) s gs)
  (hx : opd st.env x = some (vD va)) (hrun : Qy P xt yt va v) (h1 : Gt v = true)
  (next : A6 P X ops dr Q r (i + 1) (Cc.upd ⟨gs ++ [(x, vD va)], [], some s, some (vD v), [], []⟩ st) ((i, ⟨gs ++ [(x, vD va)], [], some s, some (vD v), [], []⟩) :: log)) : A6 P X ops dr Q (r + 1) i st log := by
 obtain ⟨o, ho, hop, hd, hn, hg, hgp⟩ := hat.out
 refine A6.step next ⟨Al.2 ⟨hgp, hx, trivial⟩, trivial, trivial⟩ (LR.value ho hg rfl hd.symm (C5 hd hn) ?_)
 intro G st a w hs hpre
 obtain ⟨hx, _⟩ := (Al.1 hpre.r).2
 have hX : a.eval x = va := Ef (hs.opd hx : C1 w G.S (a.eval x) (.val _))
 refine ⟨v, w, G, ?_, hs, ?_⟩
 ·simp only [execOp, hop, hX]
  exact Ak (hrun w) rfl
 ·rintro d ⟨⟩
  exact ⟨.val _ h1, fun b hb => by cases hb⟩
theorem Tt (xt : TypeId) (x y : Operand) (k : IntKind) (a b : Int) : Fi P .add xt x y (.int k a) (.int k b) (.int k (k.wrap (a + b))) := fun w => by simp [eqGuard, binOp, Op.intArith]
theorem TA (xt : TypeId) (x y : Operand) (k : IntKind) (a b : Int) : Fi P .sub xt x y (.int k a) (.int k b) (.int k (k.wrap (a - b))) := fun w => by simp [eqGuard, binOp, Op.intArith]
theorem T4 (xt : TypeId) (x y : Operand) (k : IntKind) (a b : Int) : Fi P .mul xt x y (.int k a) (.int k b) (.int k (k.wrap (a * b))) := fun w => by simp [eqGuard, binOp, Op.intArith]
theorem SS (xt : TypeId) (x y : Operand) (k : IntKind) (a b : Int) (h : b ≠ 0) : Fi P .rem xt x y (.int k a) (.int k b) (.int k (a.tmod b)) := fun w => by simp [eqGuard, binOp, Op.intDiv, h]
def Ft (k : IntKind) (a b : Int) : Int := k.wrap (BitVec.ofInt k.bits a &&& BitVec.ofInt k.bits b).toNat
def ME (k : IntKind) (a b : Int) : Int := k.wrap (BitVec.ofInt k.bits a ||| BitVec.ofInt k.bits b).toNat
def Cz (k : IntKind) (a b : Int) : Int := k.wrap (BitVec.ofInt k.bits a &&& ~~~BitVec.ofInt k.bits b).toNat
def C0 (k : IntKind) (a b : Int) : Int := k.wrap (a * 2 ^ min b.toNat k.bits)
def EA (k : IntKind) (a b : Int) : Int := a.fdiv (2 ^ min b.toNat k.bits)
theorem Tr (xt : TypeId) (x y : Operand) (k : IntKind) (a b : Int) : Fi P .and xt x y (.int k a) (.int k b) (.int k (Ft k a b)) := fun w => by simp [eqGuard, binOp, Op.intBits, Ft]
theorem UT (xt : TypeId) (x y : Operand) (k : IntKind) (a b : Int) : Fi P .or xt x y (.int k a) (.int k b) (.int k (ME k a b)) := fun w => by simp [eqGuard, binOp, Op.intBits, ME]
theorem P7 (xt : TypeId) (x y : Operand) (k : IntKind) (a b : Int) : Fi P .andNot xt x y (.int k a) (.int k b) (.int k (Cz k a b)) := fun w => by simp [eqGuard, binOp, Op.intBits, Cz]
theorem Tz (xt : TypeId) (x y : Operand) (k k' : IntKind) (a b : Int) (h : 0 ≤ b) : Fi P .shl xt x y (.int k a) (.int k' b) (.int k (C0 k a b)) := fun w => by
 simp [eqGuard, binOp, Op.shift, C0, show ¬ b < 0 from by omega]
theorem TF (xt : TypeId) (x y : Operand) (k k' : IntKind) (a b : Int) (h : 0 ≤ b) : Fi P .shr xt x y (.int k a) (.int k' b) (.int k (EA k a b)) := fun w => by
 simp [eqGuard, binOp, Op.shift, EA, show ¬ b < 0 from by omega]
theorem Tk (xt : TypeId) (x y : Operand) (k : IntKind) (a b : Int) : Fi P .eql xt x y (.int k a) (.int k b) (.bool (a == b)) := fun w => by simp [eqGuard, binOp, Op.intCmp]
theorem TD (xt : TypeId) (x y : Operand) (k : IntKind) (a b : Int) : Fi P .neq xt x y (.int k a) (.int k b) (.bool (a != b)) := fun w => by simp [eqGuard, binOp, Op.intCmp]
theorem T3 (xt : TypeId) (x y : Operand) (k : IntKind) (a b : Int) : Fi P .lss xt x y (.int k a) (.int k b) (.bool (decide (a < b))) := fun w => by simp [eqGuard, binOp, Op.intCmp]
theorem Tc (xt : TypeId) (x y : Operand) (k : IntKind) (a b : Int) : Fi P .leq xt x y (.int k a) (.int k b) (.bool (decide (a ≤ b))) := fun w => by simp [eqGuard, binOp, Op.intCmp]
theorem Tb (xt : TypeId) (x y : Operand) (k : IntKind) (a b : Int) : Fi P .gtr xt x y (.int k a) (.int k b) (.bool (decide (b < a))) := fun w => by simp [eqGuard, binOp, Op.intCmp]
theorem TC (xt : TypeId) (x y : Operand) (k : IntKind) (a b : Int) : Fi P .geq xt x y (.int k a) (.int k b) (.bool (decide (b ≤ a))) := fun w => by simp [eqGuard, binOp, Op.intCmp]
def Ud (P : Program) (t : TypeId) : Bool := match P.underlying t with | some .bool => true | _ => false
theorem U3 (b : Bool) : Ue P .not (.bool b) (.bool (!b)) := fun _w => rfl
def N2 (P : Program) (t : TypeId) (k : IntKind) : Bool := match P.underlying t with | some (.int k') => k' == k | _ => false
theorem R6 {s t : TypeId} {k : IntKind} (hs : (P.underlying s).isSome = true) (ht : N2 P t k = true) (k' : IntKind) (n : Int) : Qy P s t (.int k' n) (.int k (k.wrap n)) := fun w => by
 unfold N2 at ht
 split at ht
 ·rename_i k2 hu
  have : k2 = k := by simpa using ht
  subst this
  obtain ⟨d, hd⟩ := Option.isSome_iff_exists.1 hs
  unfold convert
  refine Ak (AK hd w) ?_
  refine Ak (AK hu w) ?_
  cases d <;> rfl
 ·cases ht
theorem U8 {c x y : Operand} {b : Bool} {d : D} {z : Operand} {s : Nat} (hat : At st.env ops i X.n (.pick c x y) s gs)
  (hc : opd st.env c = some (bD b)) (hz : (if b then x else y) = z) (hx : opd st.env z = some d)
  (next : A6 P X ops dr Q r (i + 1) (Cc.upd ⟨gs ++ [(c, bD b), (z, d)], [], some s, some d, [], []⟩ st) ((i, ⟨gs ++ [(c, bD b), (z, d)], [], some s, some d, [], []⟩) :: log)) : A6 P X ops dr Q (r + 1) i st log := by
 obtain ⟨o, ho, hop, hd, hn, hg, hgp⟩ := hat.out
 refine A6.step next ⟨Al.2 ⟨hgp, hc, hx, trivial⟩, trivial, trivial⟩ (LR.value ho hg rfl hd.symm (C5 hd hn) ?_)
 intro G st a w hs hpre
 obtain ⟨hc, hx, _⟩ := (Al.1 hpre.r).2
 have hC : a.eval c = .bool b := Ef (hs.opd hc : C1 w G.S (a.eval c) (.val _))
 refine ⟨a.eval z, w, G, ?_, hs, ?_⟩
 ·simp only [execOp, hop, hC]
  subst hz
  cases b <;> rfl
 ·rintro d ⟨⟩
  exact ⟨hs.opd hx, hs.opd_live hx⟩
theorem QZ {x : Operand} {xs : List E} {y : E} {k s : Nat} (hat : At st.env ops i X.n (.extract x k) s gs)
  (hx : opd st.env x = some (.tup xs)) (hk : xs[k]? = some y)
  (next : A6 P X ops dr Q r (i + 1) (Cc.upd ⟨gs ++ [(x, .tup xs)], [], some s, some (.e y), [], []⟩ st) ((i, ⟨gs ++ [(x, .tup xs)], [], some s, some (.e y), [], []⟩) :: log)) : A6 P X ops dr Q (r + 1) i st log := by
 obtain ⟨o, ho, hop, hd, hn, hg, hgp⟩ := hat.out
 refine A6.step next ⟨Al.2 ⟨hgp, hx, trivial⟩, trivial, trivial⟩ (LR.value ho hg rfl hd.symm (C5 hd hn) ?_)
 intro G st a w hs hpre
 obtain ⟨hx, _⟩ := (Al.1 hpre.r).2
 obtain ⟨vs, hv, hl, h⟩ : F9 P w G (a.eval x) (.tup xs) := hs.opd hx
 have hlt := AF hk
 refine ⟨Au vs k, w, G, ?_, hs, ?_⟩
 ·simp only [execOp, hop, hv, Instr.extract]
  rw [I8 (by omega)]
  rfl
 ·rintro d ⟨⟩
  exact ⟨h k y hk, fun b hb => hs.opd_live hx b (Dv.2 ⟨y, lM hk, hb⟩)⟩
end run
end Go.Lift
namespace Go.Lift
open Option renaming bind_some → oS
open List renaming mem_of_getElem? → lM
open Go.RowKit
variable {P : Program} {X : G7} {ops : Array Oper}
def EK (P : Program) (t : TypeId) (n : Nat) : Bool := match P.info? t with | some i => i.bytes == n | none => false
theorem He {t : TypeId} {i : TypeInfo} (h : P.info? t = some i) (w : World) : (typeInfo t).run P w = .ok i w := by
 simp [typeInfo, program, Sem.run, h]
theorem Mn (off : Nat) : ∀ (l : List Value) (k : Nat) (arr : Array Value), (l.zipIdx k).foldl (fun cs (p : Value × Nat) => cs.setIfInBounds (off + p.2) p.1) arr = E7 arr (off + k) l
 | [], _, _ => rfl
 | v :: l, k, arr => by
  rw [List.zipIdx_cons, List.foldl_cons, Mn off l (k + 1)]
  rfl
theorem Nz (arr cs : Array Value) (off : Nat) : (cs.zipIdx.foldl (fun cs (p : Value × Nat) => cs.setIfInBounds (off + p.2) p.1) arr) = E7 arr off cs.toList := by
 rw [← Array.foldl_toList, Array.toList_zipIdx]
 exact Mn off cs.toList 0 arr
def KA (place : Nat → Option (Nat × Nat)) (cells : List C) : List (Nat × E) → Option (List C)
 | [] => some cells
 | p :: rest => match place p.1 with
  | none => none
  | some (off, size) => if p.2.cells.length == size && decide (off + size ≤ cells.length) then KA place (Ih cells off p.2.cells) rest else none
theorem NK {w : World} {G : Gh} (place : Nat → Option (Nat × Nat)) : ∀ (ps : List (Nat × E)) (vs : List (Nat × Value)) (cells cells' : List C) (arr : Array Value),
  arr.size = cells.length → (∀ (j : Nat) (c : C), cells[j]? = some c → Ed P w G (Au arr j) c) →
  ps.length = vs.length → (∀ (j : Nat) (p : Nat × E) (v : Nat × Value), ps[j]? = some p → vs[j]? = some v → p.1 = v.1 ∧ Il P w G v.2 p.2) →
  KA place cells ps = some cells' →
  ∃ arr', Instr.fill place arr vs = some arr' ∧ arr'.size = cells'.length ∧ ∀ (j : Nat) (c : C), cells'[j]? = some c → Ed P w G (Au arr' j) c
 | [], [], cells, cells', arr, h1, h2, _, _, h => by
  simp only [KA, Option.some.injEq] at h; subst h
  exact ⟨arr, rfl, h1, h2⟩
 | p :: ps, v :: vs, cells, cells', arr, h1, h2, hl, hp, h => by
  obtain ⟨e1, e2⟩ := hp 0 p v rfl rfl
  obtain ⟨g1, g2⟩ := e2.cells
  obtain ⟨vi, vv⟩ := v
  simp only at e1 g1 g2
  subst e1
  simp only [KA] at h
  cases hpl : place p.1 with
  | none => rw [hpl] at h; cases h
  | some os =>
   obtain ⟨off, size⟩ := os
   rw [hpl] at h
   simp only at h
   split at h
   ·rename_i hc
    simp only [Bool.and_eq_true, beq_iff_eq, decide_eq_true_eq] at hc
    obtain ⟨c1, c2⟩ := hc
    have hrec := NK place ps vs (Ih cells off p.2.cells) cells' (E7 arr off vv.cells.toList) (by rw [GG, Gi, h1]) (fun j c hj => by
      rw [Jk _ _ _ _ (by omega)] at hj
      rw [Fk _ _ _ _ (by simp; omega)]
      simp only [Array.length_toList, g1]
      split at hj
      ·rename_i hin; rw [if_pos hin, FN]; exact g2 _ c hj
      ·rename_i hin; rw [if_neg hin]; exact h2 j c hj)
     (by simpa using hl) (fun j q u hq hu => hp (j + 1) q u (by simpa using hq) (by simpa using hu)) h
    obtain ⟨arr', r1, r2, r3⟩ := hrec
    refine ⟨arr', ?_, r2, r3⟩
    simp only [Instr.fill, hpl]
    rw [if_neg (by simp; omega), Nz]
    exact r1
   ·cases h
def HW (P : Program) (t : TypeId) : Option (List (Nat × Nat)) := match P.underlying t with
 | some (.struct fields) => fields.toList.mapM (fun f => (P.info? f.type).map fun i => (f.offset, i.size))
 | _ => none
def Hs (ps : List (Nat × Operand × E)) : List (Operand × D) := ps.map fun p => (p.2.1, .e p.2.2)
theorem JQ {G : Gh} {st : St} {a : Act} {w : World} (hs : CZ P X G st a w) : ∀ {ps : List (Nat × Operand × E)}, EF st.env (Hs ps) →
  ∀ (j : Nat) (p : Nat × E) (v : Nat × Value), (ps.map fun p => (p.1, p.2.2))[j]? = some p → (ps.map fun p => (p.1, a.eval p.2.1))[j]? = some v → p.1 = v.1 ∧ Il P w G v.2 p.2 ∧ ∀ b, b ∈ p.2.names → (st.bx b).isSome = true
 | q :: ps, h, 0, p, v, hp, hv => by
  simp at hp hv
  subst hp; subst hv
  exact ⟨rfl, hs.opd h.1, hs.opd_live h.1⟩
 | q :: ps, h, j + 1, p, v, hp, hv => JQ hs h.2 j p v (by simpa using hp) (by simpa using hv)
theorem K9 (place : Nat → Option (Nat × Nat)) {b : Nat} : ∀ {ps : List (Nat × E)} {cells cells' : List C}, KA place cells ps = some cells' → b ∈ DZ cells' → b ∈ DZ cells ∨ ∃ p, p ∈ ps ∧ b ∈ p.2.names
 | [], cells, cells', h, hb => by simp only [KA, Option.some.injEq] at h; subst h; exact .inl hb
 | p :: ps, cells, cells', h, hb => by
  simp only [KA] at h
  split at h
  ·cases h
  ·split at h
   ·rcases K9 place h hb with h1 | ⟨q, h1, h2⟩
    ·obtain ⟨c, hc, hbc⟩ := AU.1 h1
     rcases KI hc with h2 | h2
     ·exact .inl (AU.2 ⟨c, h2, hbc⟩)
     ·exact .inr ⟨p, by simp, by rw [← E.cells_names]; exact AU.2 ⟨c, h2, hbc⟩⟩
    ·exact .inr ⟨q, by simp [h1], h2⟩
   ·cases h
section run
variable {dr : Bool} {Q : St → Prop} {r i : Nat} {st : St} {log : List (Nat × Cc)} {o : Oper} {gs : List (Operand × D)}
theorem Li (ps : List (Nat × Operand × E)) (ρ : Operand → Value) : ((ps.map fun p => (p.1, p.2.1)).toArray.map fun (i, x) => (i, ρ x)) = (ps.map fun p => (p.1, ρ p.2.1)).toArray := by
 simp [Function.comp_def]
theorem TY {t : TypeId} {s : Nat} {z : Value} {zs : List Value} {pl : List (Nat × Nat)} {cells : List C} {parts : Array (Nat × Operand)} (ps : List (Nat × Operand × E)) (hat : At st.env ops i X.n (.build t parts) s gs) (hps : parts = (ps.map fun p => (p.1, p.2.1)).toArray)
  (hx : EF st.env (Hs ps)) (hz : DP P t = some z) (hzs : z.cells.toList = zs) (h1 : zs.all Gt = true) (hpl : HW P t = some pl) (hf : KA (pl[·]?) (zs.map fun v => C.pure (T.of v)) (ps.map fun p => (p.1, p.2.2)) = some cells)
  (next : A6 P X ops dr Q r (i + 1) (Cc.upd ⟨gs ++ Hs ps, [], some s, some (.e (.agg cells)), [], []⟩ st) ((i, ⟨gs ++ Hs ps, [], some s, some (.e (.agg cells)), [], []⟩) :: log)) : A6 P X ops dr Q (r + 1) i st log := by
 obtain ⟨o, ho, hop, hd, hn, hg, hgp⟩ := hat.out
 refine A6.step next ⟨Al.2 ⟨hgp, hx⟩, trivial, trivial⟩ (LR.value ho hg rfl hd.symm (C5 hd hn) ?_)
 intro G st a w hs hpre
 have hx := (Al.1 hpre.r).2
 subst hzs
 have hpr := JQ hs hx
 obtain ⟨arr', r1, r2, r3⟩ := NK (P := P) (w := w) (G := G) (pl[·]?) (ps.map fun p => (p.1, p.2.2)) (ps.map fun p => (p.1, a.eval p.2.1)) _ cells z.cells (by simp) (fun j c hj => OR h1 j c hj) (by simp) (fun j p v hp hv => ⟨(hpr j p v hp hv).1, (hpr j p v hp hv).2.1⟩) hf
 refine ⟨.agg arr', w, G, ?_, hs, ?_⟩
 ·simp only [execOp, hop, hps, Li]
  refine Ak (run_build w t _ arr' ?_) rfl
  unfold DP at hz
  cases hit : P.info? t with
  | none => rw [hit] at hz; cases hz
  | some it =>
   rw [hit] at hz
   simp only [oS] at hz
   unfold HW at hpl
   cases hu : P.underlying t with
   | none => rw [hu] at hpl; cases hpl
   | some d =>
    rw [hu] at hpl
    cases d <;> first | (cases hpl; done) | skip
    rename_i fields
    unfold Program.built
    rw [hit, hu]
    simp only [hz]
    rw [show (fields.toList.mapM fun f => (P.info? f.type).map fun i => (f.offset, i.size)) = some pl from hpl]
    simpa using r1
 ·rintro d ⟨⟩
  refine ⟨⟨arr', rfl, r2, r3⟩, fun b hb => ?_⟩
  rcases K9 _ hf hb with h | ⟨p, h2, h3⟩
  ·rw [NC] at h; cases h
  ·obtain ⟨j, hj⟩ := List.mem_iff_getElem?.1 h2
   have hlt := AF hj
   simp only [List.length_map] at hlt
   exact (hpr j p ((ps.map fun p => (p.1, a.eval p.2.1))[j]'(by simpa using hlt)) hj (by simp [hlt])).2.2 b h3
def Df (w : World) (S : Nat → Prop) (arr : Array Value) (e off : Nat) (rows : List (List T)) : Prop :=
 off + rows.length * e ≤ arr.size ∧ (∀ (i : Nat) (row : List T), rows[i]? = some row → row.length = e) ∧ ∀ (i : Nat) (row : List T) (j : Nat) (t : T), rows[i]? = some row → row[j]? = some t → C1 w S (Au arr (off + i * e + j)) t
theorem Nv {w : World} {G : Gh} (e : Nat) : ∀ (ps : List (Nat × E)) (vs : List (Nat × Value)) (rows : List (List T)) (k n : Nat) (arr : Array Value),
  ps.map (·.1) = (List.range' k ps.length) → k + ps.length ≤ n → arr.size = n * e → ps.length = vs.length → (∀ (j : Nat) (p : Nat × E) (v : Nat × Value), ps[j]? = some p → vs[j]? = some v → p.1 = v.1 ∧ Il P w G v.2 p.2) →
  (ps.mapM fun p => p.2.ts) = some rows → (∀ (i : Nat) (row : List T), rows[i]? = some row → row.length = e) →
  ∃ arr', Instr.fill (fun i => some (i * e, e)) arr vs = some arr' ∧ arr'.size = n * e ∧ (∀ j, j < k * e → Au arr' j = Au arr j) ∧ (∀ (i : Nat) (row : List T) (j : Nat) (t : T), rows[i]? = some row → row[j]? = some t → C1 w G.S (Au arr' ((k + i) * e + j)) t)
 | [], [], rows, k, n, arr, _, _, hsz, _, _, hr, _ => by
  simp at hr; subst hr
  exact ⟨arr, rfl, hsz, fun _ _ => rfl, fun i row j t hi => by simp at hi⟩
 | p :: ps, v :: vs, rows, k, n, arr, hk, hkn, hsz, hl, hp, hr, hrl => by
  simp only [List.length_cons] at hkn hl
  have hk0 : p.1 = k := by
   have := congrArg (fun l : List Nat => l[0]?) hk
   simpa [List.range'] using this
  have hk1 : ps.map (·.1) = List.range' (k + 1) ps.length := by
   have := congrArg List.tail hk
   simpa [List.range'] using this
  obtain ⟨e1, e2⟩ := hp 0 p v rfl rfl
  rw [List.mapM_cons] at hr
  cases hts : p.2.ts with
  | none => rw [hts] at hr; simp at hr
  | some ts =>
   obtain ⟨g1, g2⟩ := e2.ts hts
   rw [hts] at hr
   cases hrs : (ps.mapM fun p => p.2.ts) with
   | none => rw [hrs] at hr; simp at hr
   | some rs =>
    rw [hrs] at hr
    simp at hr; subst hr
    have hte := hrl 0 ts rfl
    have hke : k * e + e ≤ n * e := by rw [← Nat.succ_mul]; exact Nat.mul_le_mul_right e (by omega)
    obtain ⟨arr', r1, r2, r3, r4⟩ := Nv e ps vs rs (k + 1) n (E7 arr (k * e) v.2.cells.toList) hk1 (by omega) (by rw [GG, hsz]) (by omega) (fun j q u hq hu => hp (j + 1) q u (by simpa using hq) (by simpa using hu)) hrs (fun i row hi => hrl (i + 1) row (by simpa using hi))
    have hlen : v.2.cells.toList.length = e := by rw [Array.length_toList, g1, hte]
    have hov : ∀ j, Au (E7 arr (k * e) v.2.cells.toList) j = if k * e ≤ j ∧ j < k * e + e then Au v.2.cells (j - k * e) else Au arr j := fun j => by
     rw [Fk _ _ _ _ (by rw [hlen, hsz]; exact hke), hlen, FN]
    refine ⟨arr', ?_, r2, ?_, ?_⟩
    ·obtain ⟨vi, vv⟩ := v
     simp only at e1 g1
     simp only [Instr.fill]
     rw [if_neg (by rw [← e1, hk0]; simp; omega), Nz, ← e1, hk0]
     exact r1
    ·intro j hj
     rw [r3 j (by rw [Nat.succ_mul]; omega), hov, if_neg (by omega)]
    ·intro i row j t hi hj
     cases i with
     | zero =>
      simp at hi; subst hi
      have hj2 := AF hj
      rw [Nat.add_zero, r3 _ (by rw [Nat.succ_mul]; omega), hov, if_pos (by omega), Nat.add_sub_cancel_left]
      exact g2 j t hj
     | succ i =>
      rw [show (k + (i + 1)) * e + j = (k + 1 + i) * e + j from by rw [show k + (i + 1) = k + 1 + i from by omega]]
      exact r4 i row j t (by simpa using hi) hj
theorem Lr {α β : Type} {f : α → Option β} : ∀ {l : List α} {l' : List β}, l.mapM f = some l' → l'.length = l.length
 | [], l', h => by simp at h; subst h; rfl
 | a :: l, l', h => by
  rw [List.mapM_cons] at h
  cases ha : f a with
  | none => rw [ha] at h; simp at h
  | some b =>
   rw [ha] at h
   cases hl : l.mapM f with
   | none => rw [hl] at h; simp at h
   | some bs => rw [hl] at h; simp at h; subst h; simp [Lr hl]
theorem NR {t el : TypeId} {s n e : Nat} {z : Value} {rows : List (List T)} {parts : Array (Nat × Operand)} (ps : List (Nat × Operand × E)) (hat : At st.env ops i X.n (.buildSlice t n parts) s gs) (hps : parts = (ps.map fun p => (p.1, p.2.1)).toArray)
  (hx : EF st.env (Hs ps)) (hnew : st.bx s = none) (ht : sliceB P t el = true) (he : Gs P el e = true) (hz : DP P el = some z) (hk : ps.map (·.1) = List.range' 0 ps.length) (hl : ps.length = n) (hsm : n * e ≤ 16777216) (hr : (ps.map fun p => (p.1, p.2.2)).mapM (fun p => p.2.ts) = some rows) (hrl : rows.all (fun row => row.length == e) = true)
  (next : A6 P X ops dr Q r (i + 1) (Cc.upd ⟨gs ++ Hs ps, [], some s, some (.e (.one (.own s))), [(s, .vec e rows)], [s]⟩ st) ((i, ⟨gs ++ Hs ps, [], some s, some (.e (.one (.own s))), [(s, .vec e rows)], [s]⟩) :: log)) : A6 P X ops dr Q (r + 1) i st log := by
 obtain ⟨o, ho, hop, hd, hn, hg, hgp⟩ := hat.out
 refine A6.step next ⟨Al.2 ⟨hgp, hx⟩, trivial, hnew, trivial⟩ (LR.value ho hg rfl hd.symm (C5 hd hn) ?_)
 intro G st a w hs hpre
 have hx := (Al.1 hpre.r).2
 have hnew := hpre.n.1
 have hpr := JQ hs hx
 have hrl' : ∀ (i : Nat) (row : List T), rows[i]? = some row → row.length = e := fun i row hi => by
  have := List.all_eq_true.1 hrl row (lM hi); simpa using this
 have hrn : rows.length = n := by
  have := Lr hr
  simpa [hl] using this
 obtain ⟨arr', r1, r2, r3, r4⟩ := Nv (P := P) (w := w) (G := G) e (ps.map fun p => (p.1, p.2.2)) (ps.map fun p => (p.1, a.eval p.2.1)) rows 0 n ((Array.range (n * e)).map (fun k => (if n * e = 0 then (#[] : Array Value) else z.cells)[k % (if n * e = 0 then (#[] : Array Value) else z.cells).size]!)) (by simpa [Function.comp_def] using hk) (by simp [hl]) (by simp) (by simp) (fun j p v hp hv => ⟨(hpr j p v hp hv).1, (hpr j p v hp hv).2.1⟩) hr hrl'
 simp only [Nat.zero_add] at r4
 have hext : G.ext (G.set s (some w.heap.size) (.slice (some ⟨w.heap.size, 0, none⟩) n n)) (fun b => (st.bx b).isSome = true) := Gh.set_ext _ _ _ _ (by simp [hnew])
 have key := hs.newB (.cells arr' el) s (.vec e rows) (.slice (some ⟨w.heap.size, 0, none⟩) n n) (hs.nl hn) hnew
  (.inr ⟨w.heap.size, n, arr', el, by simp [Gh.set], by simp [Gh.set, hrn], by rw [DL, if_pos rfl], by omega, r2, hrl', fun i row j t hi hj => (r4 i row j t hi hj).mono (fun β hβ => by rw [DL, if_neg (Nat.ne_of_lt (hs.S_lt β hβ))]) fun _ h => h⟩)
  (fun c hc => by cases hc)
 refine ⟨.slice (some ⟨w.heap.size, 0, none⟩) n n, _, _, ?_, key, ?_⟩
 ·simp only [execOp, hop, hps, Li]
  refine Ak (w1 := w.alloc (.cells arr' el)) (a := .slice (some ⟨w.heap.size, 0, none⟩) n n) ?_ rfl
  unfold sliceB at ht
  split at ht
  ·rename_i e' hu
   have : e' = el := by simpa using ht
   subst this
   unfold Instr.buildSlice
   refine Ak (AK hu w) ?_
   refine Ak (DM he w) ?_
   rw [if_neg (by omega)]
   by_cases hne : n * e = 0
   ·rw [if_pos hne] at r1
    rw [if_pos hne]
    refine Ak (a := (#[] : Array Value)) (w1 := w) rfl ?_
    simp only [r1]
    rfl
   ·rw [if_neg hne] at r1
    rw [if_neg hne]
    refine Ak (ET hz w) ?_
    refine Ak (a := z.cells) (w1 := w) rfl ?_
    simp only [r1]
    rfl
  ·cases ht
 ·rintro d ⟨⟩
  refine ⟨⟨by simp [Gh.set], _, _, _, rfl⟩, fun b hb => ?_⟩
  simp [D.names, E.names, C.names] at hb
  subst hb; simp [A8]
end run
end Go.Lift
namespace Go.Lift
open Go.RowKit
variable {P : Program} {X : G7} {ops : Array Oper}
def Dx : Nat := 4294967296
theorem Vj : Dx * 4096 ≤ 140737488355328 := by simp [Dx]
def GS : List Nat → List (Nat × Bg)
 | [] => []
 | b :: bs => (b, .gone) :: GS bs
theorem Lo {bx : Nat → Option Bg} {c : Nat} : ∀ {gn : List Nat}, A8 bx (GS gn) c = if c ∈ gn then some .gone else bx c
 | [] => by simp [GS, A8]
 | b :: bs => by
  simp only [GS, A8, List.mem_cons]
  by_cases e : c = b
  ·simp [e]
  ·simp only [e, false_or, if_false]; exact Lo
theorem CZ.newVec {G : Gh} {st : St} {a : Act} {w w' : World} (h : CZ P X G st a w) {s e : Nat} {rows : List (List T)} {gn : List Nat} {l : Option Nat} {v : Value} (hsl : Bs s = false) (hnew : st.bx s = none) (_hgn : ∀ b, b ∈ gn → (st.bx b).isSome = true)
  (hl : ∀ β, l = some β → X.w0.heap.size ≤ β ∧ β < w'.heap.size ∧ ¬ G.S β ∧ ∀ b k, st.bx b = some k → k.real = true → G.has b β → b ∈ gn)
  (hw : ∀ γ, γ < w.heap.size → l ≠ some γ → w'.heap[γ]? = w.heap[γ]?) (hsz : w.heap.size ≤ w'.heap.size) (hbel : CL X.L X.w0.heap.size X.w0 w')
  (hk : EP P w' (G.set s l v) s (.vec e rows)) :
  CZ P X (G.set s l v) ⟨st.env, A8 st.bx ((s, .vec e rows) :: GS gn)⟩ a w' := by
 have hS : ∀ γ, G.S γ → w'.heap[γ]? = w.heap[γ]? := fun γ hγ => hw γ (h.S_lt γ hγ) fun e => (hl γ e).2.2.1 hγ
 have hbx : ∀ c, A8 st.bx ((s, .vec e rows) :: GS gn) c = if c = s then some (.vec e rows) else if c ∈ gn then some .gone else st.bx c := fun c => by
  simp only [A8]; split
  ·rfl
  ·exact Lo
 refine h.frame ?_ (Gh.set_ext _ _ _ _ (by simp [hnew])) hS ?_ ?_ ?_ ?_ h.S_src hbel (Gh.set_lent _ _ hsl)
 ·intro c hc; rw [hbx]; split
  ·rfl
  ·split
   ·rfl
   ·exact hc
 ·intro c k hc
  rw [hbx] at hc
  split at hc
  ·rename_i e; subst e; cases hc; exact .inr ⟨hk, fun c hc => by cases hc⟩
  ·split at hc
   ·cases hc; exact .inr ⟨trivial, fun c hc => by cases hc⟩
   ·rename_i hns hng
    exact .inl ⟨hc, fun β hr hβ => hw β (h.at_ok c k β hc hr hβ).2.1 fun e => hng ((hl β e).2.2.2 c k hc hr hβ)⟩
 ·intro c k β hc hr hβ
  rw [hbx] at hc
  rw [Gh.set_has] at hβ
  split at hc
  ·rename_i e; rw [if_pos e] at hβ; exact ⟨.new (hl β hβ).1, (hl β hβ).2.1, (hl β hβ).2.2.1⟩
  ·rename_i e; rw [if_neg e] at hβ
   split at hc
   ·cases hc; cases hr
   ·have := h.at_ok c k β hc hr hβ; exact ⟨this.1, by omega, this.2.2⟩
 ·intro c c' k k' β hc hc' hr hr' hβ hβ'
  rw [hbx] at hc hc'
  rw [Gh.set_has] at hβ hβ'
  split at hc <;> split at hc'
  ·rename_i e e'; rw [e, e']
  ·rename_i e e'; rw [if_pos e] at hβ; rw [if_neg e'] at hβ'
   split at hc'
   ·cases hc'; cases hr'
   ·rename_i hng; exact absurd ((hl β hβ).2.2.2 c' k' hc' hr' hβ') hng
  ·rename_i e e'; rw [if_neg e] at hβ; rw [if_pos e'] at hβ'
   split at hc
   ·cases hc; cases hr
   ·rename_i hng; exact absurd ((hl β hβ').2.2.2 c k hc hr hβ) hng
  ·rename_i e e'; rw [if_neg e] at hβ; rw [if_neg e'] at hβ'
   split at hc
   ·cases hc; cases hr
   ·split at hc'
    ·cases hc'; cases hr'
    ·exact h.at_inj c c' k k' β hc hc' hr hr' hβ hβ'
 ·intro β hβ; have := h.S_lt β hβ; omega
inductive Ui : D → List (Nat × Bg) → Nat → List (List T) → Prop where
 | own (b e : Nat) (rows : List (List T)) : Ui (.e (.one (.own b))) [(b, .vec e rows)] e rows
 | sl (e : Nat) (rows : List (List T)) (h : ∀ (i : Nat) (row : List T), rows[i]? = some row → row.length = e) : Ui (one (.sl rows)) [] e rows
 | nil (e : Nat) : Ui (one .nil0) [] e []
theorem Df.ones {w : World} {S : Nat → Prop} {arr : Array Value} {e : Nat} {rows : List (List T)} (h : Df w S arr e 0 rows) (hs : arr.size = rows.length * e) : ∀ u, u ∈ arr.toList → Gt u = true := by
 intro u hu
 obtain ⟨k, hk⟩ := List.mem_iff_getElem?.1 hu
 have hk' : arr[k]? = some u := by simpa using hk
 have hlt : k < arr.size := by
  rcases Nat.lt_or_ge k arr.size with h' | h'
  ·exact h'
  ·rw [Array.getElem?_eq_none h'] at hk'; cases hk'
 rcases Nat.eq_zero_or_pos e with e0 | e0
 ·rw [e0, Nat.mul_zero] at hs; omega
 have h1 : k / e < rows.length := (Nat.div_lt_iff_lt_mul e0).2 (by omega)
 have h2 : k % e < e := Nat.mod_lt _ e0
 have hrow : rows[k / e]? = some rows[k / e] := by simp [h1]
 have hlen := h.2.1 _ _ hrow
 have hcell : (rows[k / e])[k % e]? = some ((rows[k / e])[k % e]'(by omega)) := by simp [show k % e < rows[k / e].length from by omega]
 have := (h.2.2 _ _ _ _ hrow hcell).one
 rw [show 0 + k / e * e + k % e = k from by rw [Nat.zero_add, Nat.mul_comm]; exact Nat.div_add_mod k e] at this
 simpa [Au, hk'] using this
theorem Gk {w : World} {S : Nat → Prop} {β off len cap e : Nat} {arr : Array Value} {el : TypeId} {fz : Nat × Nat} {rows : List (List T)} (hb : w.heap[β]? = some (.cells arr el fz)) (h : Df w S arr e off rows) :
  ∃ news, (∀ w' : World, w'.heap = w.heap → (Builtin.firstCells e rows.length (.slice (some ⟨β, off, none⟩) len cap)).run P w' = .ok news w') ∧ Df w S news e 0 rows ∧ news.size = rows.length * e := by
 obtain ⟨h1, h2, h3⟩ := h
 refine ⟨_, fun w' hw' => Ia (by rw [hw']; exact hb) h1, ⟨by simp, h2, fun i row j t hi hj => ?_⟩, by simp⟩
 have hj' := AF hj
 have hi' := AF hi
 have := h2 i row hi
 have hle : i * e + e ≤ rows.length * e := by rw [← Nat.succ_mul]; exact Nat.mul_le_mul_right e hi'
 rw [Nat.zero_add, Hb (by omega), ← Nat.add_assoc]
 exact h3 i row j t hi hj
theorem EO {w : World} {a : Option Addr} {len cap e : Nat} {S : Nat → Prop} : ∃ news, (∀ w' : World, w'.heap = w.heap → (Builtin.firstCells e 0 (.slice a len cap)).run P w' = .ok news w') ∧ Df w S news e 0 [] ∧ news.size = 0 := by
 refine ⟨#[], fun w' _ => ?_, ⟨by simp, fun i row h => by simp at h, fun i row j t h => by simp at h⟩, rfl⟩
 cases a <;> simp [Builtin.firstCells, loadCells, loadCellsFrom]
theorem CZ.src {G : Gh} {st : St} {a : Act} {w : World} (hs : CZ P X G st a w) {x : Operand} {d : D} {rb : List (Nat × Bg)} {e : Nat} {rows : List (List T)} (hx : Lift.opd st.env x = some d) (h : Ui d rb e rows) (hb : FX st.bx rb) :
  ∃ b cap news, a.eval x = .slice b rows.length cap ∧ rows.length ≤ cap ∧ (∀ w' : World, w'.heap = w.heap → (Builtin.firstCells e rows.length (a.eval x)).run P w' = .ok news w') ∧ Df w G.S news e 0 rows ∧ news.size = rows.length * e := by
 have hR := hs.opd hx
 cases h with
 | own b e rows =>
  obtain ⟨hR, _⟩ : Ed P w G (a.eval x) (.own b) := hR
  rcases hs.blk b _ hb.1 with ⟨a', h1, h0, _⟩ | ⟨β, cap, arr, el', g0, g1, g2, g3, g4, g5, g6⟩
  ·subst h0
   rw [hR, h1]
   obtain ⟨news, k1, k2, k3⟩ := EO (P := P) (w := w) (a := a') (len := 0) (cap := 0) (e := e) (S := G.S)
   exact ⟨_, _, news, rfl, by simp, k1, k2, by simpa using k3⟩
  ·rw [hR, g1]
   obtain ⟨news, k1, k2, k3⟩ := Gk (P := P) (S := G.S) (len := rows.length) (cap := cap) (e := e) g2 (rows := rows) ⟨by rw [g4, Nat.zero_add]; exact Nat.mul_le_mul_right e g3, g5, fun i row j t hi hj => by rw [Nat.zero_add]; exact g6 i row j t hi hj⟩
   exact ⟨_, _, news, rfl, g3, k1, k2, k3⟩
 | sl e rows hrow =>
  have hR : C1 w G.S (a.eval x) (.sl rows) := hR
  generalize a.eval x = v at hR
  cases hR with
  | nil a' cap =>
   obtain ⟨news, k1, k2, k3⟩ := EO (P := P) (w := w) (a := a') (len := 0) (cap := cap) (e := e) (S := G.S)
   exact ⟨_, _, news, rfl, by simp, k1, k2, by simpa using k3⟩
  | sl β off cap e' arr el' fz rows h1 h2 h3 h4 h5 h6 =>
   have key : Df w G.S arr e off rows := by
    cases rows with
    | nil => exact ⟨by simp at h4 ⊢; exact h4, fun i row h => by simp at h, fun i row j t h => by simp at h⟩
    | cons r0 rs =>
     have he : e' = e := by rw [← hrow 0 r0 rfl]; exact (h5 0 r0 rfl).symm
     subst he
     exact ⟨h4, h5, h6⟩
   obtain ⟨news, k1, k2, k3⟩ := Gk (P := P) (len := rows.length) (cap := cap) h2 key
   exact ⟨_, _, news, rfl, h3, k1, k2, k3⟩
 | nil e =>
  have hR : C1 w G.S (a.eval x) .nil0 := hR
  generalize a.eval x = v at hR
  cases hR with
  | nil0 a' =>
   obtain ⟨news, k1, k2, k3⟩ := EO (P := P) (w := w) (a := a') (len := 0) (cap := 0) (e := e) (S := G.S)
   exact ⟨_, _, news, rfl, by simp, k1, k2, by simpa using k3⟩
theorem LV {need cap el : Nat} {w : World} : ∃ c, need ≤ c ∧ (choose (.appendCap need cap el)).run P w = .ok c w.drew := by
 refine ⟨need + w.tape w.drawn (.appendCap need cap el) % (2 ^ 63 - need), Nat.le_add_right _ _, ?_⟩
 rfl
theorem HK {t t2 el el2 e bytes : Nat} {w : World} {z x : Value} {a : Option Addr} {n cap n2 cap2 : Nat} {b2 : Option Addr} {olds news : Array Value} {ty : TypeId} (ht : sliceB P t el = true) (ht2 : sliceB P t2 el2 = true) (he : Gs P el e = true) (hby : EK P el bytes = true) (hbs : bytes ≤ 4096)
  (hz : DP P el = some z) (hzs : z.cells.size = e) (hx : x = .slice b2 n2 cap2) (hold : ∀ w' : World, w'.heap = w.heap → (Builtin.firstCells e n (.slice a n cap)).run P w' = .ok olds w') (hnew : ∀ w' : World, w'.heap = w.heap → (Builtin.firstCells e n2 x).run P w' = .ok news w') (hlim : n + n2 ≤ Dx) (_hcap : n ≤ cap) :
  (n + n2 ≤ cap ∧ ∀ w' : World, (∀ p, a = some p → (storeCells (p.add (n * e)) news.toList).run P w = .ok () w') → (a = none → w' = w) → (Builtin.append_ #[t, t2] ty #[.slice a n cap, x]).run P w = .ok (.slice a (n + n2) cap) w') ∨
  (cap < n + n2 ∧ ∃ c rest, n + n2 ≤ c ∧ (Builtin.append_ #[t, t2] ty #[.slice a n cap, x]).run P w = .ok (.slice (some ⟨w.heap.size, 0, none⟩) (n + n2) c) (w.drew.alloc (.cells (olds ++ news ++ rest) el)) ∧ rest.size = (c - (n + n2)) * e) := by
 unfold sliceB at ht ht2
 split at ht
 ·rename_i e' hu
  split at ht2
  ·rename_i e2' hu2
   have : e' = el := by simpa using ht
   subst this
   unfold EK at hby
   split at hby
   ·rename_i inf hinf
    have hbytes : inf.bytes = bytes := by simpa using hby
    have hsize : inf.size = e := by unfold Gs at he; rw [hinf] at he; simpa using he
    have hzero : inf.zero = some z := by unfold DP at hz; rw [hinf] at hz; simpa using hz
    have hlen : ∀ w' : World, (Builtin.lenOf x).run P w' = .ok n2 w' := fun w' => by rw [hx]; rfl
    have hst : ∀ w' : World, (sizeOf e').run P w' = .ok e w' := fun w' => DM he w'
    by_cases hfit : n + n2 ≤ cap
    ·refine .inl ⟨hfit, fun w' hp hno => ?_⟩
     unfold Builtin.append_
     refine Ak (AK hu w) ?_
     refine Ak (hst w) ?_
     refine Ak (AK hu2 w) ?_
     refine Ak (a := false) (w1 := w) rfl ?_
     refine Ak (hlen w) ?_
     simp only [hfit, if_true]
     refine Ak (hnew w rfl) ?_
     cases a with
     | none => rw [hno rfl]; rfl
     | some p => exact Ak (hp p rfl) rfl
    ·refine .inr ⟨by omega, ?_⟩
     have hnc : Builtin.nextslicecap (n + n2) cap * inf.bytes ≤ 281474976710656 := growslice_fits (by omega) (by
      rw [hbytes]
      exact Nat.le_trans (Nat.mul_le_mul hlim hbs) Vj)
     obtain ⟨c, hc1, hc2⟩ := LV (P := P) (need := n + n2) (cap := cap) (el := e') (w := w)
     refine ⟨c, Builtin.zeroCells z.cells (c - (n + n2)), hc1, ?_, by simp [Builtin.zeroCells, hzs]⟩
     have hc3 : ¬ (((n + n2 : Nat) : Int) > IntKind.i64.max ∧ (false = true ∨ inf.bytes = 0)) := by
      have h1 : IntKind.i64.max = 9223372036854775807 := rfl
      have h2 : Dx = 4294967296 := by simp [Dx]
      rw [h1]; omega
     have hc4 : ¬ (Builtin.nextslicecap (n + n2) cap * inf.bytes > 2 ^ 48) := by omega
     unfold Builtin.append_
     refine Ak (AK hu w) ?_
     refine Ak (hst w) ?_
     refine Ak (AK hu2 w) ?_
     refine Ak (a := false) (w1 := w) rfl ?_
     refine Ak (hlen w) ?_
     simp only [hfit, if_false]
     refine Ak (He hinf w) ?_
     rw [if_neg hc3]
     refine Ak (He hinf w) ?_
     rw [if_neg hc4]
     refine Ak hc2 ?_
     refine Ak (He hinf w.drew) ?_
     refine Ak (run_askRoom P w.drew _) ?_
     refine Ak (hold w.drew rfl) ?_
     refine Ak (hnew w.drew rfl) ?_
     refine Ak (ET hz w.drew) ?_
     rfl
   ·cases hby
  ·cases ht2
 ·cases ht
end Go.Lift
namespace Go.Lift
open Go.RowKit
variable {P : Program} {X : G7} {ops : Array Oper}
theorem Cx {a b : Array Value} {j : Nat} (h : j < a.size) : Au (a ++ b) j = Au a j := by
 unfold Au; rw [Array.getElem?_append_left h]
theorem Fx {a b : Array Value} {j : Nat} (h : a.size ≤ j) : Au (a ++ b) j = Au b (j - a.size) := by
 unfold Au; rw [Array.getElem?_append_right h]
inductive Uy : D → List (Nat × Bg) → List Nat → Nat → List (List T) → Prop where
 | own (b e : Nat) (rows : List (List T)) : Uy (.e (.one (.own b))) [(b, .vec e rows)] [b] e rows
 | nil (e : Nat) : Uy (one .nil0) [] [] e []
theorem HS {bx : Nat → Option Bg} : ∀ {a b : List (Nat × Bg)}, FX bx (a ++ b) ↔ FX bx a ∧ FX bx b
 | [], b => by simp [FX]
 | p :: a, b => by simp only [List.cons_append, FX, HS (a := a), and_assoc]
theorem Hm {w : World} {S : Nat → Prop} {arr news : Array Value} {e : Nat} {rows rows2 : List (List T)} {_off : Nat} {f : Nat → Value}
  (h1 : Df w S arr e 0 rows) (h2 : Df w S news e 0 rows2) (hf1 : ∀ j, j < rows.length * e → f j = Au arr j) (hf2 : ∀ j, j < rows2.length * e → f (rows.length * e + j) = Au news j) :
  (∀ (i : Nat) (row : List T), (rows ++ rows2)[i]? = some row → row.length = e) ∧ ∀ (i : Nat) (row : List T) (j : Nat) (t : T), (rows ++ rows2)[i]? = some row → row[j]? = some t → C1 w S (f (i * e + j)) t := by
 have hlen : ∀ (i : Nat) (row : List T), (rows ++ rows2)[i]? = some row → row.length = e := fun i row hi => by
  rcases Nat.lt_or_ge i rows.length with h | h
  ·rw [List.getElem?_append_left h] at hi; exact h1.2.1 i row hi
  ·rw [List.getElem?_append_right h] at hi; exact h2.2.1 _ row hi
 refine ⟨hlen, fun i row j t hi hj => ?_⟩
 have hj' := AF hj
 have he := hlen i row hi
 rcases Nat.lt_or_ge i rows.length with h | h
 ·rw [List.getElem?_append_left h] at hi
  have hle : i * e + e ≤ rows.length * e := by rw [← Nat.succ_mul]; exact Nat.mul_le_mul_right e h
  rw [hf1 _ (by omega)]
  have := h1.2.2 i row j t hi hj
  rwa [Nat.zero_add] at this
 ·rw [List.getElem?_append_right h] at hi
  have hi2 := AF hi
  have hle : (i - rows.length) * e + e ≤ rows2.length * e := by rw [← Nat.succ_mul]; exact Nat.mul_le_mul_right e hi2
  have hsplit : i * e + j = rows.length * e + ((i - rows.length) * e + j) := by
   rw [← Nat.add_assoc, ← Nat.add_mul, show rows.length + (i - rows.length) = i from by omega]
  rw [hsplit, hf2 _ (by omega)]
  have := h2.2.2 _ row j t hi hj
  rwa [Nat.zero_add] at this
theorem Hj (w : World) : w.drew.heap = w.heap := rfl
theorem Df.mono {w w' : World} {S : Nat → Prop} {arr : Array Value} {e off : Nat} {rows : List (List T)} (h : Df w S arr e off rows) (hw : ∀ β, S β → w'.heap[β]? = w.heap[β]?) : Df w' S arr e off rows :=
 ⟨h.1, h.2.1, fun i row j t hi hj => (h.2.2 i row j t hi hj).mono hw fun _ h => h⟩
section run
variable {dr : Bool} {Q : St → Prop} {r i : Nat} {st : St} {log : List (Nat × Cc)} {o : Oper} {gs : List (Operand × D)}
theorem CZ.dst {G : Gh} {a : Act} {w : World} (hs : CZ P X G st a w) {x : Operand} {d : D} {rb : List (Nat × Bg)} {gn : List Nat} {e : Nat} {rows : List (List T)} (hx : Lift.opd st.env x = some d) (h : Uy d rb gn e rows) (hb : FX st.bx rb) :
  (∃ a0, a.eval x = .slice a0 0 0 ∧ rows = []) ∨
  (∃ b β cap arr el', gn = [b] ∧ st.bx b = some (.vec e rows) ∧ G.loc b = some β ∧ a.eval x = .slice (some ⟨β, 0, none⟩) rows.length cap ∧ w.heap[β]? = some (.cells arr el' (0, 0)) ∧ rows.length ≤ cap ∧ arr.size = cap * e ∧ Df w G.S arr e 0 rows) := by
 have hR := hs.opd hx
 cases h with
 | own b e rows =>
  obtain ⟨hR, _⟩ : Ed P w G (a.eval x) (.own b) := hR
  rcases hs.blk b _ hb.1 with ⟨a', h1, h0, _⟩ | ⟨β, cap, arr, el', g0, g1, g2, g3, g4, g5, g6⟩
  ·exact .inl ⟨a', hR.trans h1, h0⟩
  ·exact .inr ⟨b, β, cap, arr, el', rfl, hb.1, g0, hR.trans g1, g2, g3, g4, ⟨by rw [g4, Nat.zero_add]; exact Nat.mul_le_mul_right e g3, g5, fun i row j t hi hj => by rw [Nat.zero_add]; exact g6 i row j t hi hj⟩⟩
 | nil e =>
  have hR : C1 w G.S (a.eval x) .nil0 := hR
  generalize a.eval x = v at hR
  cases hR with
  | nil0 a' => exact .inl ⟨a', rfl, rfl⟩
theorem Rk {d : D} {rb : List (Nat × Bg)} {gn : List Nat} {e : Nat} {rows : List (List T)} (h : Uy d rb gn e rows) (hb : FX st.bx rb) : ∀ b, b ∈ gn → (st.bx b).isSome = true := by
 cases h with
 | own b e rows => intro c hc; simp at hc; subst hc; simp [hb.1]
 | nil e => intro c hc; cases hc
theorem NF {x y : Operand} {t t2 el el2 s e bytes : Nat} {d d2 : D} {rb rb2 : List (Nat × Bg)} {gn : List Nat} {rows rows2 rows' : List (List T)} {z : Value} (hat : At st.env ops i X.n (.call ⟨.builtin .append, #[x, y], #[t, t2]⟩) s gs)
  (hD : Uy d rb gn e rows) (hS : Ui d2 rb2 e rows2)
  (ht : sliceB P t el = true) (ht2 : sliceB P t2 el2 = true) (he : Gs P el e = true) (hby : EK P el bytes = true) (hbs : bytes ≤ 4096) (hz : DP P el = some z) (hzs : z.cells.size = e) (hlim : rows.length + rows2.length ≤ Dx) (hr : rows ++ rows2 = rows') (hle : gn.all (fun b => !Bs b) = true) : LR P X ops i ⟨gs ++ [(x, d), (y, d2)], rb ++ rb2, some s, some (.e (.one (.own s))), (s, .vec e rows') :: GS gn, [s]⟩ := by
 obtain ⟨o, ho, hop, hd, hn, hg, hgp⟩ := hat.out
 refine LR.value ho hg rfl hd.symm (C5 hd hn) ?_
 intro G st a w hs hpre
 obtain ⟨hx, hy, _⟩ := (Al.1 hpre.r).2
 obtain ⟨hb, hb2⟩ := HS.1 hpre.b
 have hnew := hpre.n.1
 subst hr
 obtain ⟨b2, cap2, news, hy1, hy2, hy3, hy4, hy5⟩ := hs.src (P := P) hy hS hb2
 have hlen2 : news.toList.length = rows2.length * e := by simp [hy5]
 have hdn := Rk hD hb
 have hout : ∀ (w' : World) (G' : Gh) (v : Value), G'.hd s = v → (∃ a l c, v = .slice a l c) → F9 P w' G' v (.e (.one (.own s))) ∧ ∀ b, b ∈ (D.e (.one (.own s))).names → ((A8 st.bx ((s, .vec e (rows ++ rows2)) :: GS gn)) b).isSome = true := by
  intro w' G' v h1 h2
  refine ⟨⟨h1.symm, h2⟩, fun b hb => ?_⟩
  simp [D.names, E.names, C.names] at hb
  subst hb; simp [A8]
 have hrun : ∀ (v : Value) (w' : World), (Builtin.append_ #[t, t2] o.type #[a.eval x, a.eval y]).run P w = .ok v w' → (execOp a.eval o).run P w = .ok (.value v) w' := by
  intro v w' h
  simp only [execOp, hop]
  refine Fm fun cs => ?_
  simp only [List.map_toArray, List.map_cons, List.map_nil, builtin]
  exact Ak h rfl
 rcases hs.dst hx hD hb with ⟨a0, hx1, hrows⟩ | ⟨b, β, cap, arr, el', hgn, hbb, hβ, hx1, hx2, hx3, hx4, hx5⟩
 ·subst hrows
  obtain ⟨olds, k1, k2, k3⟩ := EO (P := P) (w := w) (a := a0) (len := 0) (cap := 0) (e := e) (S := G.S)
  rcases HK (ty := o.type) (a := a0) (n := 0) (cap := 0) ht ht2 he hby hbs hz hzs hy1 k1 hy3 (by simpa using hlim) (Nat.le_refl _) with ⟨hfit, hrun1⟩ | ⟨hfit, c, rest, hc1, hrun1, hrest⟩
  ·have hr0 : rows2 = [] := List.eq_nil_of_length_eq_zero (by omega)
   subst hr0
   have hn0 : news.toList = [] := List.eq_nil_of_length_eq_zero (by simpa using hlen2)
   have hrun2 := hrun1 w (fun p _ => by rw [hn0]; rfl) (fun _ => rfl)
   rw [← hx1] at hrun2
   refine ⟨_, w, G.set s none (.slice a0 0 0), hrun _ _ hrun2, ?_, ?_⟩
   ·exact hs.newVec (hs.nl hn) hnew hdn (fun β h => by cases h) (fun γ _ _ => rfl) (Nat.le_refl _) hs.below (.inl ⟨a0, by simp [Gh.set], rfl, by simp [Gh.set]⟩)
   ·rintro d' ⟨⟩
    exact hout _ _ _ (by simp [Gh.set]) ⟨_, _, _, rfl⟩
  ·rw [← hx1] at hrun1
   have hsz : (w.drew.alloc (.cells (olds ++ news ++ rest) el)).heap.size = w.heap.size + 1 := by show (w.heap.push _).size = _; simp
   have hheap : ∀ γ, γ < w.heap.size → (w.drew.alloc (.cells (olds ++ news ++ rest) el)).heap[γ]? = w.heap[γ]? := fun γ hγ => by rw [DL, if_neg (by rw [Hj]; omega)]; rfl
   have hat : (w.drew.alloc (.cells (olds ++ news ++ rest) el)).heap[w.heap.size]? = some (.cells (olds ++ news ++ rest) el) := by rw [DL, Hj, if_pos rfl]
   refine ⟨_, _, G.set s (some w.heap.size) (.slice (some ⟨w.heap.size, 0, none⟩) rows2.length c), hrun _ _ (by rw [Nat.zero_add] at hrun1; exact hrun1), ?_, ?_⟩
   ·refine hs.newVec (hs.nl hn) hnew hdn ?_ (fun γ h1 _ => hheap γ h1) (by omega) ?_ ?_
    ·rintro β ⟨⟩
     exact ⟨hs.below.size, by omega, fun h => Nat.lt_irrefl _ (hs.S_lt _ h), fun b k hk hr hb => absurd (hs.at_ok b k _ hk hr hb).2.1 (Nat.lt_irrefl _)⟩
    ·exact (hs.below.drew).alloc (by rw [Hj]; exact hs.below.size) _
    ·have hap := Hm (_off := 0) (f := fun j => Au (olds ++ news ++ rest) j) k2 hy4 (fun j hj => by simp at hj) (fun j hj => by
       simp only [List.length_nil, Nat.zero_mul, Nat.zero_add]
       rw [Cx (by simp [k3]; omega), Fx (by omega), k3, Nat.sub_zero])
     refine .inr ⟨w.heap.size, c, _, el, by simp [Gh.set], by simp [Gh.set], hat, by simpa using hc1, ?_, hap.1, fun i row j t hi hj => (hap.2 i row j t hi hj).mono (fun γ hγ => hheap γ (hs.S_lt γ hγ)) fun _ h => h⟩
     simp only [Array.size_append, k3, hy5, hrest, Nat.zero_add]
     rw [← Nat.add_mul]; congr 1; omega
   ·rintro d' ⟨⟩
    exact hout _ _ _ (by simp [Gh.set]) ⟨_, _, _, rfl⟩
 ·obtain ⟨olds, k1, k2, k3⟩ := Gk (P := P) (len := rows.length) (cap := cap) hx2 hx5
  have hatb := hs.at_ok b _ β hbb rfl (.inl hβ)
  rcases HK (ty := o.type) (a := some ⟨β, 0, none⟩) (n := rows.length) (cap := cap) ht ht2 he hby hbs hz hzs hy1 k1 hy3 hlim hx3 with ⟨hfit, hrun1⟩ | ⟨hfit, c, rest, hc1, hrun1, hrest⟩
  ·have hbnd : rows.length * e + rows2.length * e ≤ arr.size := by rw [hx4, ← Nat.add_mul]; exact Nat.mul_le_mul_right e hfit
   have hst := Et (P := P) (β := β) (el := el') news.toList w (rows.length * e) 0 arr hx2 (by rw [hlen2]; omega) (Df.ones hy4 hy5)
   rw [Nat.add_zero] at hst
   have hrun2 := hrun1 _ (fun p hp => by cases hp; rw [Addr.add_mk, Nat.zero_add]; exact hst) (fun h => by cases h)
   rw [← hx1] at hrun2
   have hheap : ∀ γ, γ ≠ β → (GN w β (.cells (E7 arr (rows.length * e) news.toList) el' (0, 0))).heap[γ]? = w.heap[γ]? := fun γ hγ => by rw [Ep, if_neg (fun h => hγ h.1)]
   have hszw : (GN w β (.cells (E7 arr (rows.length * e) news.toList) el' (0, 0))).heap.size = w.heap.size := by simp [GN]
   have hov : ∀ j, Au (E7 arr (rows.length * e) news.toList) j = if rows.length * e ≤ j ∧ j < rows.length * e + rows2.length * e then Au news (j - rows.length * e) else Au arr j := fun j => by
    rw [Fk _ _ _ _ (by rw [hlen2]; exact hbnd), hlen2, FN]
   refine ⟨_, _, G.set s (some β) (.slice (some ⟨β, 0, none⟩) (rows.length + rows2.length) cap), hrun _ _ hrun2, ?_, ?_⟩
   ·refine hs.newVec (hs.nl hn) hnew hdn ?_ (fun γ _ h2 => hheap γ fun e => h2 (by rw [e])) (by omega) (Mi hs.below hatb.1.2 _) ?_
    ·rintro β' ⟨⟩
     exact ⟨hatb.1.1 (by subst hgn; simpa using hle), by omega, hatb.2.2, fun c k hk hr hc => by rw [hs.at_inj c b k _ _ hk hbb hr rfl hc (.inl hβ), hgn]; simp⟩
    ·have hap := Hm (_off := 0) (f := fun j => Au (E7 arr (rows.length * e) news.toList) j) hx5 hy4 (fun j hj => by rw [hov, if_neg (by omega)]) (fun j hj => by rw [hov, if_pos (by omega), Nat.add_sub_cancel_left])
     exact .inr ⟨β, cap, _, el', by simp [Gh.set], by simp [Gh.set], by rw [Ep, if_pos ⟨rfl, hatb.2.1⟩], by simpa using hfit, by rw [GG, hx4], hap.1, fun i row j t hi hj => (hap.2 i row j t hi hj).mono (fun γ hγ => hheap γ fun e => hatb.2.2 (e ▸ hγ)) fun _ h => h⟩
   ·rintro d' ⟨⟩
    exact hout _ _ _ (by simp [Gh.set]) ⟨_, _, _, rfl⟩
  ·rw [← hx1] at hrun1
   have hsz : (w.drew.alloc (.cells (olds ++ news ++ rest) el)).heap.size = w.heap.size + 1 := by show (w.heap.push _).size = _; simp
   have hheap : ∀ γ, γ < w.heap.size → (w.drew.alloc (.cells (olds ++ news ++ rest) el)).heap[γ]? = w.heap[γ]? := fun γ hγ => by rw [DL, if_neg (by rw [Hj]; omega)]; rfl
   have hat : (w.drew.alloc (.cells (olds ++ news ++ rest) el)).heap[w.heap.size]? = some (.cells (olds ++ news ++ rest) el) := by rw [DL, Hj, if_pos rfl]
   refine ⟨_, _, G.set s (some w.heap.size) (.slice (some ⟨w.heap.size, 0, none⟩) (rows.length + rows2.length) c), hrun _ _ hrun1, ?_, ?_⟩
   ·refine hs.newVec (hs.nl hn) hnew hdn ?_ (fun γ h1 _ => hheap γ h1) (by omega) ?_ ?_
    ·rintro β' ⟨⟩
     exact ⟨hs.below.size, by omega, fun h => Nat.lt_irrefl _ (hs.S_lt _ h), fun b k hk hr hb => absurd (hs.at_ok b k _ hk hr hb).2.1 (Nat.lt_irrefl _)⟩
    ·exact (hs.below.drew).alloc (by rw [Hj]; exact hs.below.size) _
    ·have hap := Hm (_off := 0) (f := fun j => Au (olds ++ news ++ rest) j) k2 hy4 (fun j hj => by
       rw [Cx (by simp [k3]; omega), Cx (by omega)]) (fun j hj => by
       rw [Cx (by simp [k3, hy5]; omega), Fx (by omega), k3, Nat.add_sub_cancel_left])
     refine .inr ⟨w.heap.size, c, _, el, by simp [Gh.set], by simp [Gh.set], hat, by simpa using hc1, ?_, hap.1, fun i row j t hi hj => (hap.2 i row j t hi hj).mono (fun γ hγ => hheap γ (hs.S_lt γ hγ)) fun _ h => h⟩
     simp only [Array.size_append, k3, hy5, hrest]
     rw [← Nat.add_mul, ← Nat.add_mul]; congr 1; omega
   ·rintro d' ⟨⟩
    exact hout _ _ _ (by simp [Gh.set]) ⟨_, _, _, rfl⟩
theorem Pb {x y : Operand} {t t2 el el2 s e bytes : Nat} {d d2 : D} {rb rb2 : List (Nat × Bg)} {gn : List Nat} {rows rows2 rows' : List (List T)} {z : Value} (hat : At st.env ops i X.n (.call ⟨.builtin .append, #[x, y], #[t, t2]⟩) s gs)
  (hx : opd st.env x = some d) (hD : Uy d rb gn e rows) (hb : FX st.bx rb) (hy : opd st.env y = some d2) (hS : Ui d2 rb2 e rows2) (hb2 : FX st.bx rb2) (hnew : st.bx s = none)
  (ht : sliceB P t el = true) (ht2 : sliceB P t2 el2 = true) (he : Gs P el e = true) (hby : EK P el bytes = true) (hbs : bytes ≤ 4096) (hz : DP P el = some z) (hzs : z.cells.size = e) (hlim : rows.length + rows2.length ≤ Dx) (hr : rows ++ rows2 = rows') (hle : gn.all (fun b => !Bs b) = true)
  (next : A6 P X ops dr Q r (i + 1) (Cc.upd ⟨gs ++ [(x, d), (y, d2)], rb ++ rb2, some s, some (.e (.one (.own s))), (s, .vec e rows') :: GS gn, [s]⟩ st) ((i, ⟨gs ++ [(x, d), (y, d2)], rb ++ rb2, some s, some (.e (.one (.own s))), (s, .vec e rows') :: GS gn, [s]⟩) :: log)) : A6 P X ops dr Q (r + 1) i st log := by
 obtain ⟨o, ho, hop, hd, hn, hg, hgp⟩ := hat.out
 exact A6.step next ⟨Al.2 ⟨hgp, hx, hy, trivial⟩, HS.2 ⟨hb, hb2⟩, hnew, trivial⟩ (NF hat hD hS ht ht2 he hby hbs hz hzs hlim hr hle)
end run
end Go.Lift
namespace Go.Lift
open IntKind renaming wrap → wI
open Go.RowKit
variable {P : Program} {X : G7} {ops : Array Oper}
theorem Po {n : Int} (h0 : 0 ≤ n) (h1 : n ≤ Dx) : IntKind.i64.wrap n = n := by
 have h2 : (Dx : Int) = 4294967296 := by simp [Dx]
 unfold wI
 simp only [IntKind.bits, IntKind.signed]
 have h3 : n % (2 ^ 64 : Int) = n := Int.emod_eq_of_lt h0 (by omega)
 simp only [h3]
 rw [if_neg]
 simp
 omega
section run
variable {dr : Bool} {Q : St → Prop} {r i : Nat} {st : St} {log : List (Nat × Cc)} {o : Oper} {gs : List (Operand × D)}
theorem M3 {t el e bytes : Nat} {w : World} {z : Value} {k k' : IntKind} {l c : Int} (ht : sliceB P t el = true) (he : Gs P el e = true) (hby : EK P el bytes = true) (hbs : bytes ≤ 4096) (hz : DP P el = some z) (h0 : 0 ≤ l) (hlc : l ≤ c) (hc : c ≤ Dx) :
  ∃ arr, (Instr.makeSlice t (.int k l) (.int k' c)).run P w = .ok (.slice (some ⟨w.heap.size, 0, none⟩) l.toNat c.toNat) (w.alloc (.cells arr el)) ∧ arr.size = c.toNat * e ∧
   ∀ i j, i < c.toNat → j < e → z.cells.size = e → Au arr (i * e + j) = Au z.cells j := by
 unfold sliceB at ht
 split at ht
 ·rename_i e' hu
  have : e' = el := by simpa using ht
  subst this
  unfold EK at hby
  split at hby
  ·rename_i inf hinf
   have hbytes : inf.bytes = bytes := by simpa using hby
   have hl : IntKind.i64.wrap l = l := Po h0 (by omega)
   have hc' : IntKind.i64.wrap c = c := Po (by omega) hc
   have hlim : (Dx : Int) = 4294967296 := by simp [Dx]
   have hb : (inf.bytes : Int) * c ≤ 17592186044416 := by
    have h1 : inf.bytes * c.toNat ≤ 4096 * 4294967296 := Nat.mul_le_mul (by omega) (by omega)
    have h2 : ((inf.bytes * c.toNat : Nat) : Int) = (inf.bytes : Int) * c := by rw [Int.natCast_mul, Int.toNat_of_nonneg (by omega)]
    omega
   refine ⟨(Array.range (c.toNat * e)).map (fun k => (if c.toNat * e = 0 then (#[] : Array Value) else z.cells)[k % (if c.toNat * e = 0 then (#[] : Array Value) else z.cells).size]!), ?_, by simp, ?_⟩
   ·unfold Instr.makeSlice
    refine Ak (AK hu w) ?_
    refine Ak (a := l) (w1 := w) rfl ?_
    refine Ak (a := c) (w1 := w) rfl ?_
    refine Ak (He hinf w) ?_
    simp only [hl, hc']
    have hcond : (((decide (c < 0) || decide ((inf.bytes : Int) * c > 2 ^ 48)) || decide (l < 0)) || decide (l > c)) = false := by
     simp; omega
    rw [hcond]
    simp only [Bool.false_eq_true, if_false]
    refine Ak (run_askRoom P w _) ?_
    refine Ak (DM he w) ?_
    by_cases hne : c.toNat * e = 0
    ·simp only [hne, if_true]
     rfl
    ·simp only [hne, if_false]
     refine Ak (ET hz w) ?_
     rfl
   ·intro i j hi hj hzs
    have hne : ¬ c.toNat * e = 0 := by
     intro h
     rcases Nat.mul_eq_zero.1 h with h | h <;> omega
    simp only [hne, if_false]
    have hle : i * e + e ≤ c.toNat * e := by rw [← Nat.succ_mul]; exact Nat.mul_le_mul_right e hi
    have hlt : i * e + j < c.toNat * e := by omega
    have hmod : (i * e + j) % e = j := by rw [Nat.mul_comm, Nat.mul_add_mod]; exact Nat.mod_eq_of_lt hj
    unfold Au
    simp [hlt, hzs, hmod, hj]
  ·cases hby
 ·cases ht
theorem Lv {x y : Operand} {t el s e bytes : Nat} {z : Value} {zs : List Value} {rows : List (List T)} {k k' : IntKind} {l c : Int} (hat : At st.env ops i X.n (.makeSlice t x y) s gs)
  (hx : opd st.env x = some (vD (.int k l))) (hy : opd st.env y = some (vD (.int k' c))) (hnew : st.bx s = none) (ht : sliceB P t el = true) (he : Gs P el e = true) (hby : EK P el bytes = true) (hbs : bytes ≤ 4096) (hz : DP P el = some z) (hzs : z.cells.toList = zs) (hze : zs.length = e) (h1 : zs.all Gt = true) (h0 : 0 ≤ l) (hlc : l ≤ c) (hc : c ≤ Dx) (hrows : List.replicate l.toNat (zs.map fun v => (T.of v).nrm) = rows)
  (next : A6 P X ops dr Q r (i + 1) (Cc.upd ⟨gs ++ [(x, vD (.int k l)), (y, vD (.int k' c))], [], some s, some (.e (.one (.own s))), [(s, .vec e rows)], [s]⟩ st) ((i, ⟨gs ++ [(x, vD (.int k l)), (y, vD (.int k' c))], [], some s, some (.e (.one (.own s))), [(s, .vec e rows)], [s]⟩) :: log)) : A6 P X ops dr Q (r + 1) i st log := by
 subst hrows
 obtain ⟨o, ho, hop, hd, hn, hg, hgp⟩ := hat.out
 refine A6.step next ⟨Al.2 ⟨hgp, hx, hy, trivial⟩, trivial, hnew, trivial⟩ (LR.value ho hg rfl hd.symm (C5 hd hn) ?_)
 intro G st a w hs hpre
 obtain ⟨hx, hy, _⟩ := (Al.1 hpre.r).2
 have hnew := hpre.n.1
 have hX : a.eval x = .int k l := Ef (hs.opd hx : C1 w G.S (a.eval x) (.val _))
 have hY : a.eval y = .int k' c := Ef (hs.opd hy : C1 w G.S (a.eval y) (.val _))
 obtain ⟨arr, r1, r2, r3⟩ := M3 (P := P) (w := w) (k := k) (k' := k') ht he hby hbs hz h0 hlc hc
 have hrow : ∀ (i : Nat) (row : List T), (List.replicate l.toNat (zs.map fun v => (T.of v).nrm))[i]? = some row → i < l.toNat ∧ row = zs.map fun v => (T.of v).nrm := fun i row hi => by
  have hlt := AF hi
  simp only [List.length_replicate] at hlt
  rw [List.getElem?_replicate, if_pos hlt] at hi
  exact ⟨hlt, by simpa using hi.symm⟩
 have key := hs.newB (.cells arr el) s (.vec e (List.replicate l.toNat (zs.map fun v => (T.of v).nrm))) (.slice (some ⟨w.heap.size, 0, none⟩) l.toNat c.toNat) (hs.nl hn) hnew
  (.inr ⟨w.heap.size, c.toNat, arr, el, by simp [Gh.set], by simp [Gh.set], by rw [DL, if_pos rfl], by simp; omega, r2, fun i row hi => by rw [(hrow i row hi).2]; simpa using hze, fun i row j t hi hj => by
   obtain ⟨h2, h3⟩ := hrow i row hi
   subst h3
   have hj' := AF hj
   simp only [List.length_map] at hj'
   rw [r3 i j (by omega) (by omega) (by rw [← hze, ← hzs]; simp)]
   have hzj : z.cells.toList[j]? = some (zs[j]) := by rw [hzs]; simp [hj']
   have : t = (T.of zs[j]).nrm := by simpa [hj'] using hj.symm
   subst this
   have hc2 : Au z.cells j = zs[j] := by
    have : z.cells[j]? = some zs[j] := by simpa using hzj
    simp [Au, this]
   rw [hc2]
   exact (C1.of (List.all_eq_true.1 h1 _ (List.getElem_mem hj'))).nrm⟩)
  (fun c hc => by cases hc)
 refine ⟨.slice (some ⟨w.heap.size, 0, none⟩) l.toNat c.toNat, _, _, ?_, key, ?_⟩
 ·simp only [execOp, hop, hX, hY]
  exact Ak r1 rfl
 ·rintro d ⟨⟩
  refine ⟨⟨by simp [Gh.set], _, _, _, rfl⟩, fun b hb => ?_⟩
  simp [D.names, E.names, C.names] at hb
  subst hb; simp [A8]
inductive Rs : Option Operand → Nat → Nat → List (Operand × D) → Prop where
 | none (d : Nat) : Rs none d d []
 | some (y : Operand) (d : Nat) (k : IntKind) (v : Int) (h : 0 ≤ v) : Rs (some y) d v.toNat [(y, vD (.int k v))]
theorem Fb {k : IntKind} {v : Int} {y : Nat} {code : BoundsCode} (h : 0 ≤ v) (h2 : v.toNat ≤ y) (w : World) : (Instr.sliceBound (.int k v) y code).run P w = .ok v.toNat w := by
 unfold Instr.sliceBound
 refine Ak (a := (k, v)) (w1 := w) rfl ?_
 have : 0 ≤ v ∧ v ≤ (y : Int) := ⟨h, by omega⟩
 simp only [this, and_self, if_true]; rfl
theorem LB {G : Gh} {st : St} {a : Act} {w : World} (hs : CZ P X G st a w) {lo hi : Option Operand} {l h len cap : Nat} {rl rh : List (Operand × D)} (hlo : Rs lo 0 l rl) (hhi : Rs hi len h rh) (h1 : EF st.env rl) (h2 : EF st.env rh) (hlh : l ≤ h) (hhc : h ≤ cap) :
  (Instr.sliceBounds true len cap (lo.map a.eval) (hi.map a.eval) none).run P w = .ok (l, h, cap) w := by
 unfold Instr.sliceBounds
 refine Ak (a := cap) (w1 := w) rfl ?_
 have low : ∀ (h : Nat), l ≤ h → ((match lo.map a.eval with
      | some v => do
       let l ← Instr.sliceBound v h (if (none : Option Value).isSome = true then BoundsCode.slice3C else BoundsCode.sliceB)
       pure (l, h, cap)
      | none => do
       let l ← pure 0
       pure (l, h, cap) : Sem (Nat × Nat × Nat))).run P w = .ok (l, h, cap) w := fun h hlh => by
  cases hlo with
  | none => rfl
  | some y d k v hv =>
   have : a.eval y = .int k v := Ef (hs.opd h1.1 : C1 w G.S (a.eval y) (.val _))
   simp only [Option.map_some, this]
   exact Ak (Fb hv hlh w) rfl
 cases hhi with
 | none => exact Ak (w1 := w) rfl (low _ hlh)
 | some y d k v hv =>
  have : a.eval y = .int k v := Ef (hs.opd h2.1 : C1 w G.S (a.eval y) (.val _))
  simp only [Option.map_some, this]
  exact Ak (Fb hv hhc w) (low _ hlh)
theorem IZ {t el e : Nat} {G : Gh} {st : St} {a : Act} {w : World} (hs : CZ P X G st a w) {lo hi : Option Operand} {l h len cap : Nat} {rl rh : List (Operand × D)} {p : Option Addr} (ht : sliceB P t el = true) (he : Gs P el e = true) (hlo : Rs lo 0 l rl) (hhi : Rs hi len h rh) (h1 : EF st.env rl) (h2 : EF st.env rh) (hlh : l ≤ h) (hhc : h ≤ cap) :
  (Instr.sliceAt t (.slice p len cap) (lo.map a.eval) (hi.map a.eval) none).run P w = .ok (.slice (if cap = l then p else p.map (·.add (l * e))) (h - l) (cap - l)) w := by
 unfold sliceB at ht
 split at ht
 ·rename_i e' hu
  have : e' = el := by simpa using ht
  subst this
  unfold Instr.sliceAt
  refine Ak (AK hu w) ?_
  unfold Instr.slice
  refine Ak (AK hu w) ?_
  refine Ak (LB hs hlo hhi h1 h2 hlh hhc) ?_
  refine Ak (DM he w) ?_
  rfl
 ·cases ht
theorem H0 {x : Operand} {t el s e l h : Nat} {lo hi : Option Operand} {rl rh : List (Operand × D)} {rows rows' : List (List T)} (hat : At st.env ops i X.n (.slice t x lo hi none) s gs)
  (hx : opd st.env x = some (one (.sl rows))) (ht : sliceB P t el = true) (he : Gs P el e = true) (hrl : ∀ (i : Nat) (row : List T), rows[i]? = some row → row.length = e) (hlo : Rs lo 0 l rl) (hhi : Rs hi rows.length h rh) (h1 : EF st.env rl) (h2 : EF st.env rh) (hlh : l ≤ h) (hhl : h ≤ rows.length) (hr : (rows.drop l).take (h - l) = rows')
  (next : A6 P X ops dr Q r (i + 1) (Cc.upd ⟨gs ++ ((x, one (.sl rows)) :: (rl ++ rh)), [], some s, some (one (.sl rows')), [], []⟩ st) ((i, ⟨gs ++ ((x, one (.sl rows)) :: (rl ++ rh)), [], some s, some (one (.sl rows')), [], []⟩) :: log)) : A6 P X ops dr Q (r + 1) i st log := by
 obtain ⟨o, ho, hop, hd, hn, hg, hgp⟩ := hat.out
 refine A6.step next ⟨Al.2 ⟨hgp, hx, Al.2 ⟨h1, h2⟩⟩, trivial, trivial⟩ (LR.value ho hg rfl hd.symm (C5 hd hn) ?_)
 intro G st a w hs hpre
 obtain ⟨hx, h12⟩ := (Al.1 hpre.r).2
 obtain ⟨h1, h2⟩ := Al.1 h12
 subst hr
 have hR : C1 w G.S (a.eval x) (.sl rows) := hs.opd hx
 have hlen : ((rows.drop l).take (h - l)).length = h - l := by simp; omega
 have hex : ∀ v : Value, (Instr.sliceAt t (a.eval x) (lo.map a.eval) (hi.map a.eval) none).run P w = .ok v w → (execOp a.eval o).run P w = .ok (.value v) w := fun v hv => by
  simp only [execOp, hop]
  exact Ak hv rfl
 have fin : ∀ v : Value, C1 w G.S v (.sl ((rows.drop l).take (h - l))) → ∀ d, some (one (.sl ((rows.drop l).take (h - l)))) = some d → F9 P w G v d ∧ ∀ b, b ∈ d.names → (A8 st.bx [] b).isSome = true := fun v hv d hd => by
  cases hd; exact ⟨hv, fun b hb => by cases hb⟩
 generalize hv : a.eval x = v at hR hex
 cases hR with
 | nil a' cap =>
  have hh : h = 0 := by simpa using hhl
  subst hh
  have hl0 : l = 0 := by omega
  subst hl0
  refine ⟨_, w, G, hex _ (IZ (a := a) hs ht he hlo hhi h1 h2 hlh (Nat.zero_le _)), hs, fin _ ?_⟩
  exact .nil _ _
 | sl β off cap e' arr el' fz rows g1 g2 g3 g4 g5 g6 =>
  refine ⟨_, w, G, hex _ (IZ (a := a) hs ht he hlo hhi h1 h2 hlh (by omega)), hs, fin _ ?_⟩
  by_cases hz : h - l = 0
  ·rw [hz, List.take_zero]; exact .nil _ _
  ·have hlc : ¬ cap = l := by omega
   rw [if_neg hlc]
   simp only [Option.map_some, Addr.add_mk]
   have hrow0 : ∃ r0, rows[l]? = some r0 := ⟨rows[l]'(by omega), by simp [show l < rows.length from by omega]⟩
   obtain ⟨r0, hr0⟩ := hrow0
   have hee : e' = e := by rw [← hrl l r0 hr0]; exact (g5 l r0 hr0).symm
   subst hee
   have hget : ∀ (i : Nat) (row : List T), ((rows.drop l).take (h - l))[i]? = some row → rows[l + i]? = some row := fun i row hi => by
    have := AF hi
    rw [hlen] at this
    rw [List.getElem?_take_of_lt this, List.getElem?_drop] at hi
    exact hi
   have hle : l * e' + (h - l) * e' ≤ rows.length * e' := by rw [← Nat.add_mul]; exact Nat.mul_le_mul_right e' (by omega)
   have := C1.sl (w := w) (S := G.S) β (off + l * e') (cap - l) e' arr el' fz ((rows.drop l).take (h - l)) g1 g2 (by rw [hlen]; omega) (by rw [hlen]; omega) (fun i row hi => g5 _ row (hget i row hi)) (fun i row j t hi hj => by
    have := g6 _ row j t (hget i row hi) hj
    rwa [Nat.add_mul, ← Nat.add_assoc] at this)
   rwa [hlen] at this
end run
end Go.Lift
namespace Go.Lift
open List renaming mem_of_getElem? → lM
open List renaming getD_eq_getElem?_getD → lD
open Go.RowKit
variable {P : Program} {X : G7} {ops : Array Oper}
def G0 (S : Nat → Prop) : Gh := { S := S, loc := fun _ => none, hd := fun _ => undef, more := fun _ _ => False }
def As (P : Program) (f : FuncId) (args : List D) (rv : List (Nat × List (List T))) (res : D) : Prop :=
 ∀ (w : World) (S : Nat → Prop) (vs : Array Value), (∀ β, S β → β < w.heap.size) → SQ P w S → vs.size = args.length → (∀ (j : Nat) (d : D), args[j]? = some d → F9 P w (G0 S) (Au vs j) d) →
  Calls P f vs w fun e w' => ∃ v G', e = .returned v ∧ SO w.heap.size w w' ∧ (∀ β, S β → G'.S β) ∧ (∀ β, G'.S β → S β ∨ (w.heap.size ≤ β ∧ β < w'.heap.size)) ∧ F9 P w' G' v res ∧
   (∀ (k : Nat) (x : Nat × List (List T)), rv[k]? = some x → EP P w' G' k (.vec x.1 x.2)) ∧
   (∀ k β, k < rv.length → G'.has k β → w.heap.size ≤ β ∧ β < w'.heap.size ∧ ¬ G'.S β) ∧
   (∀ k l β, k < rv.length → l < rv.length → G'.has k β → G'.has l β → k = l)
def Gx.ren (f : Nat → Nat) : Gx → Gx
 | .own b => .own (f b)
 | .ptr b k => .ptr (f b) k
 | .mref b => .mref (f b)
 | c => c
def C.ren (f : Nat → Nat) : C → C
 | .cls g caps => .cls g (caps.map (Gx.ren f))
 | .own b => .own (f b)
 | .ptr b k => .ptr (f b) k
 | .eptr b e i k => .eptr (f b) e i k
 | .view b e lo len => .view (f b) e lo len
 | .mref b => .mref (f b)
 | c => c
def E.ren (f : Nat → Nat) : E → E
 | .one c => .one (c.ren f)
 | .agg cs => .agg (cs.map (C.ren f))
def D.ren (f : Nat → Nat) : D → D
 | .e x => .e (x.ren f)
 | .tup xs => .tup (xs.map (E.ren f))
def Bg.ren (f : Nat → Nat) : Bg → Bg
 | .box cs => .box (cs.map (C.ren f))
 | .hol e cols i k c rows => .hol e cols i k (f c) rows
 | k => k
structure Gh.via (G G' : Gh) (f : Nat → Nat) (p : Nat → Prop) : Prop where
 S : ∀ β, G.S β → G'.S β
 loc : ∀ b, p b → G'.loc (f b) = G.loc b
 hd : ∀ b, p b → G'.hd (f b) = G.hd b
 more : ∀ b, p b → G'.more (f b) = G.more b
theorem Gh.via.has {G G' : Gh} {f : Nat → Nat} {p : Nat → Prop} (h : G.via G' f p) {b β : Nat} (hb : p b) : G'.has (f b) β ↔ G.has b β := by
 unfold Gh.has; rw [h.loc b hb, h.more b hb]
theorem IL.ren {w : World} {G G' : Gh} {f : Nat → Nat} {p : Nat → Prop} {v : Value} {c : Gx} (h : IL w G v c) (hG : G.via G' f p) (hp : ∀ b, b ∈ c.names → p b) : IL w G' v (c.ren f) := by
 cases c with
 | tr t => exact C1.mono h (fun _ _ => rfl) hG.S
 | own b => exact ⟨by rw [hG.hd b (hp b (by simp [Gx.names]))]; exact h.1, h.2⟩
 | ptr b k => obtain ⟨β, h1, h2⟩ := h; exact ⟨β, by rw [hG.loc b (hp b (by simp [Gx.names]))]; exact h1, h2⟩
 | mref b => obtain ⟨β, h1, h2⟩ := h; exact ⟨β, by rw [hG.loc b (hp b (by simp [Gx.names]))]; exact h1, h2⟩
 | rop ts =>
  obtain ⟨β, off, arr, el, fz, h1, h2, h3, h4, h5⟩ := h
  exact ⟨β, off, arr, el, fz, h1, hG.S _ h2, h3, h4, fun j t hj => (h5 j t hj).mono (fun _ _ => rfl) hG.S⟩
theorem Ed.ren {w : World} {G G' : Gh} {f : Nat → Nat} {p : Nat → Prop} {v : Value} {c : C} (h : Ed P w G v c) (hG : G.via G' f p) (hp : ∀ b, b ∈ c.names → p b) : Ed P w G' v (c.ren f) := by
 cases c with
 | pure t => exact C1.mono h (fun _ _ => rfl) hG.S
 | own b => exact ⟨by rw [hG.hd b (hp b (by simp [C.names]))]; exact h.1, h.2⟩
 | ptr b k => obtain ⟨β, h1, h2⟩ := h; exact ⟨β, by rw [hG.loc b (hp b (by simp [C.names]))]; exact h1, h2⟩
 | eptr b e i k => obtain ⟨β, h1, h2⟩ := h; exact ⟨β, by rw [hG.loc b (hp b (by simp [C.names]))]; exact h1, h2⟩
 | view b e lo len => obtain ⟨a, n, cap, p, h1, h2⟩ := h; exact ⟨a, n, cap, p, by rw [hG.hd b (hp b (by simp [C.names]))]; exact h1, h2⟩
 | mref b => obtain ⟨β, h1, h2⟩ := h; exact ⟨β, by rw [hG.loc b (hp b (by simp [C.names]))]; exact h1, h2⟩
 | rop ts =>
  obtain ⟨β, off, arr, el, fz, h1, h2, h3, h4, h5⟩ := h
  exact ⟨β, off, arr, el, fz, h1, hG.S _ h2, h3, h4, fun j t hj => (h5 j t hj).mono (fun _ _ => rfl) hG.S⟩
 | clo g => exact Km.mono h (fun _ _ => rfl) hG.S
 | any => exact h
 | nilq p => exact h
 | fnc f => exact h
 | cls g caps =>
  obtain ⟨vs, h1, h2, h3⟩ := h
  refine ⟨vs, h1, by simp [h2], fun j c hj => ?_⟩
  rw [List.getElem?_map] at hj
  cases hx : caps[j]? with
  | none => rw [hx] at hj; cases hj
  | some c0 => rw [hx] at hj; cases hj; exact (h3 j c0 hx).ren hG fun b hb => hp b (EI.2 ⟨c0, lM hx, hb⟩)
theorem Il.ren {w : World} {G G' : Gh} {f : Nat → Nat} {p : Nat → Prop} {v : Value} {x : E} (h : Il P w G v x) (hG : G.via G' f p) (hp : ∀ b, b ∈ x.names → p b) : Il P w G' v (x.ren f) := by
 cases x with
 | one c => exact Ed.ren h hG hp
 | agg cs =>
  obtain ⟨vs, e, hs, h⟩ := h
  refine ⟨vs, e, by simp [hs], fun j c hj => ?_⟩
  rw [List.getElem?_map] at hj
  cases hx : cs[j]? with
  | none => rw [hx] at hj; cases hj
  | some c0 =>
   rw [hx] at hj; cases hj
   exact (h j c0 hx).ren hG fun b hb => hp b (AU.2 ⟨c0, lM hx, hb⟩)
theorem F9.ren {w : World} {G G' : Gh} {f : Nat → Nat} {p : Nat → Prop} {v : Value} {d : D} (h : F9 P w G v d) (hG : G.via G' f p) (hp : ∀ b, b ∈ d.names → p b) : F9 P w G' v (d.ren f) := by
 cases d with
 | e x => exact Il.ren h hG hp
 | tup xs =>
  obtain ⟨vs, e, hs, h⟩ := h
  refine ⟨vs, e, by simp [hs], fun j c hj => ?_⟩
  rw [List.getElem?_map] at hj
  cases hx : xs[j]? with
  | none => rw [hx] at hj; cases hj
  | some c0 =>
   rw [hx] at hj; cases hj
   exact (h j c0 hx).ren hG fun b hb => hp b (Dv.2 ⟨c0, lM hx, hb⟩)
theorem EP.ren {w : World} {G G' : Gh} {f : Nat → Nat} {p : Nat → Prop} {b : Nat} {k : Bg} (h : EP P w G b k) (hG : G.via G' f p) (hb : p b) (hp : ∀ c, c ∈ k.names → p c) : EP P w G' (f b) (k.ren f) := by
 cases k with
 | box cells =>
  obtain ⟨β, arr, el, h1, h2, h3, h4⟩ := h
  refine ⟨β, arr, el, by rw [hG.loc b hb]; exact h1, h2, by simp [h3], fun j c hj => ?_⟩
  rw [List.getElem?_map] at hj
  cases hx : cells[j]? with
  | none => rw [hx] at hj; cases hj
  | some c0 =>
   rw [hx] at hj; cases hj
   exact (h4 j c0 hx).ren hG fun b hb => hp b (AU.2 ⟨c0, lM hx, hb⟩)
 | vec e rows =>
  rcases h with ⟨a, h1, h2, h3⟩ | ⟨β, cap, arr, el, h0, h1, h2, h3, h4, h5, h6⟩
  ·exact .inl ⟨a, by rw [hG.hd b hb]; exact h1, h2, by rw [hG.loc b hb]; exact h3⟩
  ·exact .inr ⟨β, cap, arr, el, by rw [hG.loc b hb]; exact h0, by rw [hG.hd b hb]; exact h1, h2, h3, h4, h5, fun i row j t hi hj => (h6 i row j t hi hj).mono (fun _ _ => rfl) hG.S⟩
 | mp es =>
  obtain ⟨β, arr, clock, h1, h2, h3, h4⟩ := h
  exact ⟨β, arr, clock, by rw [hG.loc b hb]; exact h1, h2, h3, fun i x hi => by
   obtain ⟨m, e1, e2, e3⟩ := h4 i x hi
   exact ⟨m, e1, e2, e3.mono (fun _ _ => rfl) hG.S⟩⟩
 | dvec e cols rows =>
  rcases h with ⟨a, h1, h2, h3⟩ | ⟨β, cap, arr, el, Rf, h0, h1, h2, h3, h4, h5, h6, h7, h8, h9⟩
  ·exact .inl ⟨a, by rw [hG.hd b hb]; exact h1, h2, by rw [hG.loc b hb]; exact h3⟩
  ·exact .inr ⟨β, cap, arr, el, Rf, by rw [hG.loc b hb]; exact h0, by rw [hG.hd b hb]; exact h1, h2, h3, h4, h5, fun i row j t hi hj => (h6 i row j t hi hj).mono (fun _ _ => rfl) hG.S (fun _ h => h), fun i j γ hγ => by rw [hG.more b hb]; exact h7 i j γ hγ, h8, h9⟩
 | pvec n e cols rows =>
  obtain ⟨hn, h⟩ := h
  refine ⟨hn, ?_⟩
  rcases h with ⟨a, h1, h2, h3⟩ | ⟨β, cap, arr, el, Rf, h0, h1, h2, h3, h4, h5, h6, h7, h8, h9⟩
  ·exact .inl ⟨a, by rw [hG.hd b hb]; exact h1, h2, by rw [hG.loc b hb]; exact h3⟩
  ·exact .inr ⟨β, cap, arr, el, Rf, by rw [hG.loc b hb]; exact h0, by rw [hG.hd b hb]; exact h1, h2, h3, h4, h5, fun i row j t hi hj => (h6 i row j t hi hj).mono (fun _ _ => rfl) hG.S (fun _ h => h), fun i j γ hγ => by rw [hG.more b hb]; exact h7 i j γ hγ, h8, h9⟩
 | hol e cols i0 k0 c rows =>
  obtain ⟨β, cap, arr, el, Rf, h0, h1, h2, h3, h4, h5, h6, h7, h8, h9, h10, h11⟩ := h
  have hc := hG.hd c (hp c (by simp [Bg.names]))
  exact ⟨β, cap, arr, el, Rf, by rw [hG.loc b hb]; exact h0, by rw [hG.hd b hb]; exact h1, h2, h3, h4, h5, fun i row j t hi hj hne => (h6 i row j t hi hj hne).mono (fun _ _ => rfl) hG.S (fun _ h => h), fun i j γ hγ => by rw [hG.more b hb]; exact h7 i j γ hγ, h8, h9, by rw [hc]; exact h10, by rw [hc]; exact h11⟩
 | gone => trivial
theorem F9.closed {w : World} {G : Gh} {v : Value} {d : D} (h : F9 P w G v d) (hn : d.names = []) {S : Nat → Prop} (hS : ∀ β, G.S β → S β) : F9 P w (G0 S) v d :=
 h.mono (p := fun _ => False) ⟨hS, fun _ h => h.elim, fun _ h => h.elim, fun _ h => h.elim⟩ (fun _ _ => rfl) (fun b hb => by rw [hn] at hb; cases hb)
theorem MT {f : Nat → Nat} {c : Gx} {b : Nat} (h : b ∈ (c.ren f).names) : ∃ b0, b0 ∈ c.names ∧ b = f b0 := by
 cases c <;> simp [Gx.ren, Gx.names] at h ⊢ <;> exact h
theorem H1 {f : Nat → Nat} {c : C} {b : Nat} (h : b ∈ (c.ren f).names) : ∃ b0, b0 ∈ c.names ∧ b = f b0 := by
 cases c with
 | cls g caps =>
  obtain ⟨c, hc, hb⟩ := EI.1 (show b ∈ DQ (caps.map (Gx.ren f)) from h)
  obtain ⟨c0, h0, rfl⟩ := List.mem_map.1 hc
  obtain ⟨b0, h1, h2⟩ := MT hb
  exact ⟨b0, EI.2 ⟨c0, h0, h1⟩, h2⟩
 | _ => simp [C.ren, C.names] at h ⊢ <;> exact h
theorem Lb {f : Nat → Nat} {x : E} {b : Nat} (h : b ∈ (x.ren f).names) : ∃ b0, b0 ∈ x.names ∧ b = f b0 := by
 cases x with
 | one c => exact H1 h
 | agg cs =>
  obtain ⟨c, hc, hb⟩ := AU.1 h
  obtain ⟨c0, h0, rfl⟩ := List.mem_map.1 hc
  obtain ⟨b0, h1, h2⟩ := H1 hb
  exact ⟨b0, AU.2 ⟨c0, h0, h1⟩, h2⟩
theorem HZ {f : Nat → Nat} {d : D} {b : Nat} (h : b ∈ (d.ren f).names) : ∃ b0, b0 ∈ d.names ∧ b = f b0 := by
 cases d with
 | e x => exact Lb h
 | tup xs =>
  obtain ⟨c, hc, hb⟩ := Dv.1 h
  obtain ⟨c0, h0, rfl⟩ := List.mem_map.1 hc
  obtain ⟨b0, h1, h2⟩ := Lb hb
  exact ⟨b0, Dv.2 ⟨c0, h0, h1⟩, h2⟩
def nm (ns : List Nat) (k : Nat) : Nat := ns.getD k 0
def IR : List Nat → List (Nat × List (List T)) → List (Nat × Bg)
 | n :: ns, x :: xs => (n, .vec x.1 x.2) :: IR ns xs
 | _, _ => []
theorem Kn {bx : Nat → Option Bg} : ∀ {ns : List Nat} {rv : List (Nat × List (List T))} {c : Nat}, ns.length = rv.length → ns.Nodup →
  (c ∉ ns → A8 bx (IR ns rv) c = bx c) ∧ ∀ (k : Nat) (x : Nat × List (List T)), rv[k]? = some x → A8 bx (IR ns rv) (nm ns k) = some (.vec x.1 x.2)
 | [], [], c, _, _ => ⟨fun _ => rfl, fun k x h => by simp at h⟩
 | n :: ns, x :: xs, c, hl, hnd => by
  have ih := Kn (bx := bx) (ns := ns) (rv := xs) (c := c) (by simpa using hl) (List.nodup_cons.1 hnd).2
  refine ⟨fun hc => ?_, fun k y hk => ?_⟩
  ·simp only [List.mem_cons, not_or] at hc
   simp only [IR, A8]
   rw [if_neg hc.1]; exact ih.1 hc.2
  ·cases k with
   | zero => simp at hk; subst hk; simp [IR, A8, nm]
   | succ k =>
    have hk' : xs[k]? = some y := by simpa using hk
    have hlt := AF hk'
    have hlt2 : k < ns.length := by simp at hl; omega
    have : nm (n :: ns) (k + 1) = nm ns k := by simp [nm]
    rw [this]
    have hne : nm ns k ≠ n := by
     intro e
     have : nm ns k ∈ ns := by unfold nm; rw [lD]; simp [hlt2]
     exact (List.nodup_cons.1 hnd).1 (e ▸ this)
    simp only [IR, A8]
    rw [if_neg hne]
    exact (Kn (bx := bx) (ns := ns) (rv := xs) (c := c) (by simpa using hl) (List.nodup_cons.1 hnd).2).2 k y hk'
theorem I0 {ns : List Nat} {c : Nat} (h : c ∈ ns) : ∃ k, k < ns.length ∧ nm ns k = c := by
 obtain ⟨k, hk⟩ := List.mem_iff_getElem?.1 h
 exact ⟨k, AF hk, by unfold nm; rw [lD, hk]; rfl⟩
theorem Dg {ns : List Nat} {k : Nat} (h : k < ns.length) : nm ns k ∈ ns := by
 unfold nm; rw [lD]; simp [h]
theorem KP {ns : List Nat} (hnd : ns.Nodup) {j k : Nat} (hj : j < ns.length) (hk : k < ns.length) (h : nm ns j = nm ns k) : j = k := by
 unfold nm at h
 rw [lD, lD] at h
 simp only [hj, hk, List.getElem?_eq_getElem, Option.getD_some] at h
 rcases Nat.lt_trichotomy j k with h1 | h1 | h1
 ·exact absurd h (List.pairwise_iff_getElem.1 hnd j k hj hk h1)
 ·exact h1
 ·exact absurd h.symm (List.pairwise_iff_getElem.1 hnd k j hk hj h1)
def AD (P : Program) (f : FuncId) : Bool := match P.funcs[f]? with | some fn => !(fn.name == "runtime.NumGoroutine") && fn.body.isSome | none => false
theorem II {f : FuncId} (h : AD P f = true) (args : Array Value) (w : World) : (callFunc f args).run P w = .ok (.enter f args) w := by
 unfold AD at h
 split at h
 ·rename_i fn hf
  simp only [Bool.and_eq_true, Bool.not_eq_true'] at h
  obtain ⟨h1, h2⟩ := h
  have h3 : ¬ fn.body = none := by cases hb : fn.body <;> simp_all
  have h4 : ¬ fn.name = "runtime.NumGoroutine" := by simpa using h1
  simp [callFunc, program, Sem.run, hf]
  rw [if_neg h4, if_neg h3]
 ·cases h
theorem HC {f : FuncId} (h : AD P f = true) {xs : Array Operand} {ts : Array TypeId} {ρ : Operand → Value} {ty : TypeId} {w : World} (hρ : ρ (.func f) = .func (.func f) #[] #[]) :
  (do let d ← resolve ρ ⟨.value (.func f), xs, ts⟩ ty; invoke d.target d.args : Sem Next).run P w = .ok (.enter f (xs.map ρ)) w := by
 simp only [resolve, hρ, Deferred.ofValue]
 refine Ak (a := { target := .fn (.func f) #[], args := #[] ++ xs.map ρ }) (w1 := w) rfl ?_
 simp only [invoke]
 rw [II h]; simp
def F8 : List Operand → List D → List (Operand × D)
 | x :: xs, d :: ds => (x, d) :: F8 xs ds
 | _, _ => []
theorem GU {env : Nat → Option D} : ∀ {xs : List Operand} {ds : List D}, xs.length = ds.length → EF env (F8 xs ds) → ∀ (j : Nat) (x : Operand) (d : D), xs[j]? = some x → ds[j]? = some d → opd env x = some d
 | x :: xs, d :: ds, _, h, 0, y, e, hx, hd => by simp at hx hd; subst hx; subst hd; exact h.1
 | x :: xs, d :: ds, hl, h, j + 1, y, e, hx, hd => GU (by simpa using hl) h.2 j y e (by simpa using hx) (by simpa using hd)
def JZ (ns : List Nat) : Prop := ns.Nodup ∧ ∀ c, c ∈ ns → Bs c = false
def HH : List Nat → Bool
 | [] => true
 | x :: xs => !xs.contains x && HH xs
theorem HX : ∀ {l : List Nat}, HH l = true → l.Nodup
 | [], _ => List.nodup_nil
 | x :: xs, h => by
  simp only [HH, Bool.and_eq_true, Bool.not_eq_true'] at h
  refine List.nodup_cons.2 ⟨?_, HX h.2⟩
  intro hm
  have : xs.contains x = true := by simpa using hm
  rw [this] at h; cases h.1
theorem GV {l : List Nat} (h : (HH l && l.all fun c => !Bs c) = true) : JZ l := by
 rw [Bool.and_eq_true, List.all_eq_true] at h
 exact ⟨HX h.1, fun c hc => by simpa using h.2 c hc⟩
def Rq (d : D) : Bool := d.names.isEmpty
section run
variable {dr : Bool} {Q : St → Prop} {r i : Nat} {st : St} {log : List (Nat × Cc)} {o : Oper} {gs : List (Operand × D)}
theorem US {f s : Nat} {xs : List Operand} {ds0 ds : List D} {rv : List (Nat × List (List T))} {res : D} {ts : Array TypeId} (ns : List Nat) (hc : As P f ds rv res) (hat : At st.env ops i X.n (.call ⟨.value (.func f), xs.toArray, ts⟩) s gs)
  (hf : AD P f = true) (hl : xs.length = ds0.length) (hx : EF st.env (F8 xs ds0)) (hds : ds0.map D.nrm = ds) (hpub : ds.all Rq = true) (hns : ns.length = rv.length) (hndl : JZ ns) (hnew : KS st.bx ns) (hres : res.names.all (fun b => decide (b < rv.length)) = true)
  (next : A6 P X ops dr Q r (i + 1) (Cc.upd ⟨gs ++ F8 xs ds0, [], some s, some (res.ren (nm ns)), IR ns rv, ns⟩ st) ((i, ⟨gs ++ F8 xs ds0, [], some s, some (res.ren (nm ns)), IR ns rv, ns⟩) :: log)) : A6 P X ops dr Q (r + 1) i st log := by
 obtain ⟨o, ho, hop, hd, hn, hg, hgp⟩ := hat.out
 have hnd := hndl.1
 subst hds
 refine A6.step next ⟨Al.2 ⟨hgp, hx⟩, trivial, hnew⟩ ?_
 intro st a w K Q' hs hpre hK
 obtain ⟨G, hs⟩ := hs
 have hx := (Al.1 hpre.r).2
 have hw := hs.wanted hg (Al.1 hpre.r).1
 have hnew := hpre.n
 have hnew' : ∀ c, c ∈ ns → st.bx c = none := by
  have : ∀ {l : List Nat}, KS st.bx l → ∀ c, c ∈ l → st.bx c = none := by
   intro l
   induction l with
   | nil => intro _ c hc; cases hc
   | cons b l ih =>
    intro h c hc
    rcases List.mem_cons.1 hc with e | e
    ·subst e; exact h.1
    ·exact ih h.2 c e
  exact this hnew
 unfold wpOp
 rw [ho]
 simp only [hw, if_true]
 refine .inl ?_
 unfold Oper.wp
 have hrun : (execOp a.eval o).run P w = .ok (.enter f (xs.toArray.map a.eval)) w := by
  simp only [execOp, hop]
  exact HC hf rfl
 rw [hrun]
 show Calls P f (xs.toArray.map a.eval) w _
 refine (hc w G.S (xs.toArray.map a.eval) hs.S_lt hs.gok (by simpa using hl) ?_).mono ?_
 ·intro j d hj
  obtain ⟨d0, hj0, rfl⟩ : ∃ d0, ds0[j]? = some d0 ∧ d0.nrm = d := by
   rw [List.getElem?_map] at hj
   cases hx0 : ds0[j]? with
   | none => rw [hx0] at hj; cases hj
   | some d0 => rw [hx0] at hj; cases hj; exact ⟨d0, rfl, rfl⟩
  have hlt := AF hj0
  have hxj : xs[j]? = some (xs[j]'(by omega)) := by simp [show j < xs.length from by omega]
  have hop' := GU hl hx j _ d0 hxj hj0
  have hcell : Au (xs.toArray.map a.eval) j = a.eval (xs[j]'(by omega)) := by simp [Au, show j < xs.length from by omega]
  rw [hcell]
  refine ((hs.opd hop').nrm).closed ?_ (fun _ h => h)
  have := List.all_eq_true.1 hpub _ (lM hj)
  simpa [Rq] using this
 ·rintro e w' ⟨v, G', rfl, hbel, hS1, hS2, hres', hvec, hvat, hvinj⟩
  show K (a.put o.dst v) w'
  rw [hd]
  -- the ghost of the caller
  let G2 : Gh := { S := fun β => G'.S β ∧ True, loc := fun c => if c ∈ ns then G'.loc (ns.idxOf c) else G.loc c, hd := fun c => if c ∈ ns then G'.hd (ns.idxOf c) else G.hd c, more := fun c => if c ∈ ns then G'.more (ns.idxOf c) else G.more c }
  have hidx : ∀ k, k < ns.length → ns.idxOf (nm ns k) = k := by
   intro k hk
   have hm := Dg hk
   have h1 : ns.idxOf (nm ns k) < ns.length := List.idxOf_lt_length_of_mem hm
   refine KP hnd h1 hk ?_
   have h2 := List.getElem_idxOf h1
   show ns.getD (ns.idxOf (nm ns k)) 0 = nm ns k
   rw [lD, List.getElem?_eq_getElem h1, Option.getD_some, h2]
  have hvia : G'.via G2 (nm ns) (fun b => b < ns.length) := ⟨fun β h => ⟨h, trivial⟩, fun b hb => by simp only [G2]; rw [if_pos (Dg hb), hidx b hb], fun b hb => by simp only [G2]; rw [if_pos (Dg hb), hidx b hb], fun b hb => by simp only [G2]; rw [if_pos (Dg hb), hidx b hb]⟩
  have hext : G.ext G2 (fun b => (st.bx b).isSome = true) := by
   have : ∀ b, (st.bx b).isSome = true → b ∉ ns := fun b hb hm => by rw [hnew' b hm] at hb; cases hb
   exact ⟨fun β h => ⟨hS1 β h, trivial⟩, fun b hb => by simp only [G2]; rw [if_neg (this b hb)], fun b hb => by simp only [G2]; rw [if_neg (this b hb)], fun b hb => by simp only [G2]; rw [if_neg (this b hb)]⟩
  have hwS : ∀ β, G.S β → w'.heap[β]? = w.heap[β]? := fun β hβ => hbel.block β (hs.S_lt β hβ)
  have hsz := hbel.size
  have hle := hs.below.size
  have hS3 : ∀ β, G2.S β → G.S β ∨ (w.heap.size ≤ β ∧ β < w'.heap.size) := fun β h => hS2 β h.1
  have hvg := fun c => Kn (bx := st.bx) (ns := ns) (rv := rv) (c := c) hns hnd
  have hblk : ∀ c k, A8 st.bx (IR ns rv) c = some k → (c ∉ ns ∧ st.bx c = some k) ∨ (∃ m x, m < ns.length ∧ nm ns m = c ∧ rv[m]? = some x ∧ k = .vec x.1 x.2) := by
   intro c k hc
   by_cases hm : c ∈ ns
   ·obtain ⟨m, hm1, hm2⟩ := I0 hm
    have hrx : rv[m]? = some (rv[m]'(by omega)) := by simp [show m < rv.length from by omega]
    have := (hvg c).2 m _ hrx
    rw [hm2, hc] at this
    exact .inr ⟨m, _, hm1, hm2, hrx, by simpa using this⟩
   ·rw [(hvg c).1 hm] at hc; exact .inl ⟨hm, hc⟩
  have key : CZ P X G2 ⟨st.env, A8 st.bx (IR ns rv)⟩ a w' := by
   refine hs.frame ?_ hext hwS ?_ ?_ ?_ ?_ ?_ (hs.below.trans (.of (hbel.mono hle))) (fun b hb => by
    have : b ∉ ns := fun hm => by rw [hndl.2 b hm] at hb; cases hb
    simp only [G2]; rw [if_neg this, if_neg this, if_neg this]; exact ⟨rfl, rfl, rfl⟩)
   ·intro c hc
    have hm : c ∉ ns := fun hm => by rw [hnew' c hm] at hc; cases hc
    rw [(hvg c).1 hm]; exact hc
   ·intro c k hc
    rcases hblk c k hc with ⟨_, h1⟩ | ⟨m, x, h1, h2, h3, h4⟩
    ·exact .inl ⟨h1, fun β hr hβ => hbel.block β (hs.at_ok c k β h1 hr hβ).2.1⟩
    ·subst h4
     refine .inr ⟨?_, fun c hc => by cases hc⟩
     rw [← h2]
     exact (hvec m x h3).ren hvia h1 (fun c hc => by cases hc)
   ·intro c k β hc hr hβ
    rcases hblk c k hc with ⟨h0, h1⟩ | ⟨m, x, h1, h2, h3, h4⟩
    ·have hβ := (hext.has (by rw [h1]; rfl)).1 hβ
     have := hs.at_ok c k β h1 hr hβ
     refine ⟨this.1, by omega, fun h => ?_⟩
     rcases hS3 β h with h | h
     ·exact this.2.2 h
     ·omega
    ·rw [← h2, hvia.has h1] at hβ
     have := hvat m β (by omega) hβ
     exact ⟨.new (by omega), this.2.1, fun h => this.2.2 h.1⟩
   ·intro c c' k k' β hc hc' hr hr' hβ hβ'
    rcases hblk c k hc with ⟨h0, h1⟩ | ⟨m, x, h1, h2, h3, h4⟩ <;> rcases hblk c' k' hc' with ⟨h0', h1'⟩ | ⟨m', x', h1', h2', h3', h4'⟩
    ·have hβ := (hext.has (by rw [h1]; rfl)).1 hβ
     have hβ' := (hext.has (by rw [h1']; rfl)).1 hβ'
     exact hs.at_inj c c' k k' β h1 h1' hr hr' hβ hβ'
    ·have hβ := (hext.has (by rw [h1]; rfl)).1 hβ
     rw [← h2', hvia.has h1'] at hβ'
     have h5 := hvat m' β (by omega) hβ'
     have h6 := (hs.at_ok c k β h1 hr hβ).2.1
     omega
    ·have hβ' := (hext.has (by rw [h1']; rfl)).1 hβ'
     rw [← h2, hvia.has h1] at hβ
     have h5 := hvat m β (by omega) hβ
     have h6 := (hs.at_ok c' k' β h1' hr' hβ').2.1
     omega
    ·rw [← h2, hvia.has h1] at hβ
     rw [← h2', hvia.has h1'] at hβ'
     have := hvinj m m' β (by omega) (by omega) hβ hβ'
     rw [← h2, ← h2', this]
   ·intro β h
    rcases hS3 β h with h | h
    ·have := hs.S_lt β h; omega
    ·exact h.2
   ·intro β h
    rcases hS3 β h with h | h
    ·exact hs.S_src β h
    ·exact .inr (by omega)
  have hrn : ∀ b, b ∈ res.names → b < ns.length := fun b hb => by
   have := List.all_eq_true.1 hres b hb
   rw [hns]; simpa using this
  refine hK _ _ ⟨G2, key.put (some s) (some (res.ren (nm ns))) v (by intro t e; cases e; exact hn) ?_⟩
  rintro d ⟨⟩
  refine ⟨hres'.ren hvia hrn, fun b hb => ?_⟩
  obtain ⟨b0, h1, h2⟩ := HZ hb
  have hrx : rv[b0]? = some (rv[b0]'(by have := hrn b0 h1; omega)) := by simp [show b0 < rv.length from by have := hrn b0 h1; omega]
  show (A8 st.bx (IR ns rv) b).isSome = true
  rw [h2, (hvg b).2 b0 _ hrx]; rfl
end run
end Go.Lift
namespace Go.Lift
open List renaming mem_of_getElem? → lM
open List renaming getElem?_eq_some_iff → lI
open Go.RowKit
variable {P : Program} {X : G7}
def W (P : Program) (X : G7) (c : Code) (Q : Exit → St → Prop) (st : St) : Prop :=
 ∀ (a : Act) (w : World), O8 P X st a w → c.wp P (fun e a' w' => ∃ st', Q e st' ∧ O8 P X st' a' w') a w
def Nc (K : St → Prop) (Q : Exit → St → Prop) : Exit → St → Prop
 | .normal, st => K st
 | e, st => Q e st
theorem AP {x y : Code} {Q : Exit → St → Prop} {st : St} (h : W P X x (Nc (W P X y Q) Q) st) : W P X (.seq x y) Q st := by
 intro a w hs
 refine wp_seq (wp_mono (h a w hs) ?_)
 rintro e a' w' ⟨st', hq, hs'⟩
 cases e with
 | normal => exact hq a' w' hs'
 | _ => exact ⟨st', hq, hs'⟩
theorem UY {c : Code} {Q Q' : Exit → St → Prop} {st : St} (h : W P X c Q st) (hq : ∀ e st, Q e st → Q' e st) : W P X c Q' st :=
 fun a w hs => wp_mono (h a w hs) fun _ _ _ ⟨st', h1, h2⟩ => ⟨st', hq _ _ h1, h2⟩
theorem Am {Q : Exit → St → Prop} {st : St} (h : Q .normal st) : W P X .skip Q st := fun _ _ hs => wp_skip ⟨st, h, hs⟩
theorem AY {id : Nat} {Q : Exit → St → Prop} {st : St} (h : Q (.exit id) st) : W P X (.exit id) Q st := fun _ _ hs => wp_exit ⟨st, h, hs⟩
theorem Aq {Q : Exit → St → Prop} {st : St} (h : Q .ret st) : W P X .ret Q st := fun _ _ hs => wp_ret ⟨st, h, hs⟩
theorem U0 {c : Operand} {x y : Code} {Q : Exit → St → Prop} {st : St} {b : Bool} (hc : opd st.env c = some (bD b)) (ht : b = true → W P X x Q st) (hf : b = false → W P X y Q st) : W P X (.cond c x y) Q st := by
 intro a w hs
 have hcv : a.eval c = .bool b := by
  obtain ⟨G, hs⟩ := hs
  exact Ef (hs.opd hc : C1 w G.S (a.eval c) (.val _))
 cases b with
 | true => exact wp_cond_true hcv (ht rfl a w hs)
 | false => exact wp_cond_false hcv (hf rfl a w hs)
def N5 (id : Nat) (Q : Exit → St → Prop) : Exit → St → Prop
 | .exit id', st => if id' = id then Q .normal st else Q (.exit id') st
 | e, st => Q e st
theorem AO {id : Nat} {c : Code} {Q : Exit → St → Prop} {st : St} (h : W P X c (N5 id Q) st) : W P X (.block id c) Q st := by
 intro a w hs
 refine wp_block (wp_mono (h a w hs) ?_)
 rintro e a' w' ⟨st', hq, hs'⟩
 cases e with
 | exit id' =>
  simp only [N5] at hq
  simp only [Exit.inBlock]
  split at hq
  ·rename_i e; rw [if_pos e]; exact ⟨st', hq, hs'⟩
  ·rename_i e; rw [if_neg e]; exact ⟨st', hq, hs'⟩
 | _ => exact ⟨st', hq, hs'⟩
theorem U7 {c : Code} {Q : Exit → St → Prop} {st : St} (I : Nat → St → Prop) (n : Nat) (h0 : I n st)
  (round : ∀ n st, I n st → W P X c (Nc (fun st' => ∃ m, m < n ∧ I m st') Q) st) : W P X (.loop c) Q st := by
 intro a w hs b k cs
 have key : ∀ (n : Nat) (st : St) (a : Act) (w : World), I n st → O8 P X st a w →
   ∃ e a' w', (∃ st', Q e st' ∧ O8 P X st' a' w') ∧ Arrives P (lone (b.at a (.code c :: .inLoop c :: k)) cs w) b k cs e a' w' := by
  intro n
  induction n using Nat.strongRecOn with
  | _ n ih =>
   intro st a w hI hs
   obtain ⟨e, a1, w1, ⟨st1, hq, hs1⟩, harr⟩ := round n st hI a w hs b (.inLoop c :: k) cs
   cases e with
   | normal =>
    obtain ⟨m, hm, hI1⟩ := hq
    obtain ⟨e2, a2, w2, h2, harr2⟩ := ih m hm st1 a1 w1 hI1 hs1
    exact ⟨e2, a2, w2, h2, .of_steps (Steps.trans harr (.one step_inLoop)) harr2⟩
   | exit id => exact ⟨_, a1, w1, ⟨st1, hq, hs1⟩, .pass (x := .inLoop c) rfl (fun _ _ => .inl (by simp)) harr⟩
   | goto l => exact ⟨_, a1, w1, ⟨st1, hq, hs1⟩, .pass (x := .inLoop c) rfl (fun _ _ => .inl (by simp)) harr⟩
   | ret => exact ⟨_, a1, w1, ⟨st1, hq, hs1⟩, .pass (x := .inLoop c) rfl (fun _ _ => .inl (by simp)) harr⟩
   | panic ch => exact ⟨_, a1, w1, ⟨st1, hq, hs1⟩, .pass (x := .inLoop c) rfl (fun _ _ => .inl (by simp)) harr⟩
   | outgrown => exact ⟨_, a1, w1, ⟨st1, hq, hs1⟩, .pass (x := .inLoop c) rfl (fun _ _ => .inl (by simp)) harr⟩
 obtain ⟨e, a', w', hq, harr⟩ := key n st a w h0 hs
 exact ⟨e, a', w', hq, .of_steps (.one step_loop) harr⟩
theorem Aj {id : Nat} {ops : Array Oper} {dr : Bool} {Q : Exit → St → Prop} {st : St} {n : Nat} (hm : P.follows .mixedOrders = true) (hn : ops.size = n)
  (h : A6 P X ops dr (fun st' => Q .normal st') n 0 st []) : W P X (.region id ops dr) Q st := by
 subst hn
 intro a w hs
 exact MK hm h (fun st' a' w' hq hs' => ⟨st', hq, hs'⟩) hs
theorem Ad {ops : Array Oper} {Q : St → Prop} {i : Nat} {st : St} {log : List (Nat × Cc)} (h : Q st) : A6 P X ops false Q 0 i st log := ⟨(fun h => by cases h), h⟩
theorem AH {ops : Array Oper} {Q : St → Prop} {i : Nat} {st : St} {log : List (Nat × Cc)} (hb : (Gm (Ng ops.toList []) log.reverse && Ie ops) = true) (h : Q st) : A6 P X ops true Q 0 i st log := ⟨fun _ => hb, h⟩
theorem Ae {c : Code} {Q : Exit → St → Prop} {st st' : St} (h : E8 P X st st') (hw : W P X c Q st') : W P X c Q st := fun a w hs => hw a w (h a w hs)
def PD {α : Type} : List (Nat × α) → Nat → Option α
 | [], _ => none
 | p :: ps, k => if k = p.1 then some p.2 else PD ps k
def mk (el : List (Nat × D)) (bl : List (Nat × Bg)) : St := ⟨PD el, PD bl⟩
def S6 (f : Nat → Nat) (env : Nat → Option D) : List (Nat × D) → Prop
 | [] => True
 | p :: ps => env p.1 = some (p.2.ren f) ∧ S6 f env ps
def SZ (f : Nat → Nat) (bx : Nat → Option Bg) : List (Nat × Bg) → Prop
 | [] => True
 | p :: ps => bx (f p.1) = some (p.2.ren f) ∧ SZ f bx ps
theorem Kk {α : Type} : ∀ {l : List (Nat × α)} {k : Nat} {x : α}, PD l k = some x → (k, x) ∈ l
 | p :: ps, k, x, h => by
  simp only [PD] at h
  split at h
  ·rename_i e; cases h; subst e; simp
  ·exact List.mem_cons_of_mem _ (Kk h)
theorem Pc {f : Nat → Nat} {env : Nat → Option D} : ∀ {l : List (Nat × D)}, S6 f env l → ∀ p, p ∈ l → env p.1 = some (p.2.ren f)
 | q :: ps, h, p, hp => by
  rcases List.mem_cons.1 hp with e | e
  ·subst e; exact h.1
  ·exact Pc h.2 p e
theorem OZ {f : Nat → Nat} {bx : Nat → Option Bg} : ∀ {l : List (Nat × Bg)}, SZ f bx l → ∀ p, p ∈ l → bx (f p.1) = some (p.2.ren f)
 | q :: ps, h, p, hp => by
  rcases List.mem_cons.1 hp with e | e
  ·subst e; exact h.1
  ·exact OZ h.2 p e
def Uq (el : List (Nat × D)) (bl : List (Nat × Bg)) : Bool :=
 (el.all fun p => p.2.names.all fun b => (bl.any fun q => q.1 == b)) && (bl.all fun p => p.2.names.all fun b => (bl.any fun q => q.1 == b))
theorem IY {α : Type} : ∀ {l : List (Nat × α)} {b : Nat}, (l.any fun q => q.1 == b) = true → (PD l b).isSome = true
 | p :: ps, b, h => by
  simp only [List.any_cons, Bool.or_eq_true, beq_iff_eq] at h
  simp only [PD]
  split
  ·rfl
  ·rename_i hne
   rcases h with h | h
   ·exact absurd h.symm hne
   ·exact IY h
theorem JV {w : World} {G : Gh} {f : Nat → Nat} {v : Value} {c : C} (h : Ed P w G v (c.ren f)) : Ed P w { S := G.S, loc := fun b => G.loc (f b), hd := fun b => G.hd (f b), more := fun b => G.more (f b) } v c := by
 cases c with
 | cls g caps =>
  obtain ⟨vs, h1, h2, h3⟩ := h
  refine ⟨vs, h1, by simpa using h2, fun j c hj => ?_⟩
  have := h3 j (c.ren f) (by rw [List.getElem?_map, hj]; rfl)
  cases c <;> exact this
 | _ => exact h
theorem Md {w : World} {G : Gh} {f : Nat → Nat} {v : Value} {x : E} (h : Il P w G v (x.ren f)) : Il P w { S := G.S, loc := fun b => G.loc (f b), hd := fun b => G.hd (f b), more := fun b => G.more (f b) } v x := by
 cases x with
 | one c => exact JV h
 | agg cs =>
  obtain ⟨vs, e, hs, h⟩ := h
  exact ⟨vs, e, by simpa using hs, fun j c hj => JV (h j _ (Ag hj))⟩
theorem HF {w : World} {G : Gh} {f : Nat → Nat} {v : Value} {d : D} (h : F9 P w G v (d.ren f)) : F9 P w { S := G.S, loc := fun b => G.loc (f b), hd := fun b => G.hd (f b), more := fun b => G.more (f b) } v d := by
 cases d with
 | e x => exact Md h
 | tup xs =>
  obtain ⟨vs, e, hs, h⟩ := h
  exact ⟨vs, e, by simpa using hs, fun j c hj => Md (h j _ (Ag hj))⟩
theorem Hr {w : World} {G : Gh} {f : Nat → Nat} {b : Nat} {k : Bg} (h : EP P w G (f b) (k.ren f)) : EP P w { S := G.S, loc := fun b => G.loc (f b), hd := fun b => G.hd (f b), more := fun b => G.more (f b) } b k := by
 cases k with
 | box cells =>
  obtain ⟨β, arr, el, h1, h2, h3, h4⟩ := h
  exact ⟨β, arr, el, h1, h2, by simpa using h3, fun j c hj => JV (h4 j _ (Ag hj))⟩
 | vec e rows => exact h
 | mp es => exact h
 | dvec e cols rows => exact h
 | pvec n_ e cols rows => exact h
 | hol e cols i k c rows => exact h
 | gone => trivial
theorem HB {f : Nat → Nat} {k : Bg} : (k.ren f).real = k.real := by cases k <;> rfl
theorem NY {f g : Nat → Nat} {c : Gx} (h : ∀ b, b ∈ c.names → f b = g b) : c.ren f = c.ren g := by
 cases c <;> first | rfl | (simp only [Gx.ren]; rw [h _ (by simp [Gx.names])])
theorem L3 {f g : Nat → Nat} {c : C} (h : ∀ b, b ∈ c.names → f b = g b) : c.ren f = c.ren g := by
 cases c with
 | cls k caps =>
  simp only [C.ren]
  rw [List.map_congr_left fun c hc => NY fun b hb => h b (EI.2 ⟨c, hc, hb⟩)]
 | _ => first | rfl | (simp only [C.ren]; rw [h _ (by simp [C.names])])
theorem Lk {f g : Nat → Nat} {cs : List C} (h : ∀ b, b ∈ DZ cs → f b = g b) : cs.map (C.ren f) = cs.map (C.ren g) :=
 List.map_congr_left fun c hc => L3 fun b hb => h b (AU.2 ⟨c, hc, hb⟩)
theorem Mj {f g : Nat → Nat} {x : E} (h : ∀ b, b ∈ x.names → f b = g b) : x.ren f = x.ren g := by
 cases x with
 | one c => simp only [E.ren]; rw [L3 h]
 | agg cs => simp only [E.ren]; rw [Lk h]
theorem Qm {f g : Nat → Nat} {d : D} (h : ∀ b, b ∈ d.names → f b = g b) : d.ren f = d.ren g := by
 cases d with
 | e x => simp only [D.ren]; rw [Mj h]
 | tup xs =>
  simp only [D.ren]; congr 1
  exact List.map_congr_left fun c hc => Mj fun b hb => h b (Dv.2 ⟨c, hc, hb⟩)
theorem Qi {f g : Nat → Nat} {k : Bg} (h : ∀ b, b ∈ k.names → f b = g b) : k.ren f = k.ren g := by
 cases k with
 | box cs => simp only [Bg.ren]; rw [Lk h]
 | hol e cols i k c rows => simp only [Bg.ren]; rw [h c (by simp [Bg.names])]
 | _ => rfl
theorem TG {st : St} (f : Nat → Nat) (el : List (Nat × D)) (bl : List (Nat × Bg)) (he : S6 f st.env el) (hb : SZ f st.bx bl) (hinj' : (HH ((bl.map (·.1)).map f) && bl.all fun p => if Bs p.1 then f p.1 == p.1 else !Bs (f p.1)) = true) (hshut : Uq el bl = true) : E8 P X st (mk el bl) := by
 have hinj := HX (Bool.and_eq_true_iff.1 hinj').1
 have hlen := List.all_eq_true.1 (Bool.and_eq_true_iff.1 hinj').2
 rintro a w ⟨G, h⟩
 simp only [Uq, Bool.and_eq_true] at hshut
 let f0 := f
 let f' : Nat → Nat := fun b => if Bs b then b else f b
 have hff : ∀ p, p ∈ bl → f' p.1 = f p.1 := fun p hp => by
  have := hlen p hp
  by_cases hl : Bs p.1 = true
  ·simp only [hl, if_true] at this
   simp only [f', hl, if_true]
   exact (beq_iff_eq.1 this).symm
  ·simp only [f']; rw [if_neg hl]
 have hfe : ∀ p, p ∈ el → ∀ b, b ∈ p.2.names → f' b = f b := fun p hp b hb => by
  have := List.all_eq_true.1 (List.all_eq_true.1 hshut.1 p hp) b hb
  rw [List.any_eq_true] at this
  obtain ⟨q, hq, e⟩ := this
  rw [← beq_iff_eq.1 e]; exact hff q hq
 have hfb : ∀ p, p ∈ bl → ∀ b, b ∈ p.2.names → f' b = f b := fun p hp b hb => by
  have := List.all_eq_true.1 (List.all_eq_true.1 hshut.2 p hp) b hb
  rw [List.any_eq_true] at this
  obtain ⟨q, hq, e⟩ := this
  rw [← beq_iff_eq.1 e]; exact hff q hq
 replace he : ∀ p, p ∈ el → st.env p.1 = some (p.2.ren f') := fun p hp => by rw [Pc he p hp, Qm (hfe p hp)]
 replace hb : ∀ p, p ∈ bl → st.bx (f' p.1) = some (p.2.ren f') := fun p hp => by rw [hff p hp, OZ hb p hp, Qi (hfb p hp)]
 refine ⟨{ S := G.S, loc := fun b => G.loc (f' b), hd := fun b => G.hd (f' b), more := fun b => G.more (f' b) }, ?_⟩
 have hbl : ∀ b k, (mk el bl).bx b = some k → (b, k) ∈ bl ∧ st.bx (f' b) = some (k.ren f') := fun b k hk => by
  have hm := Kk hk
  exact ⟨hm, hb _ hm⟩
 refine { S_lt := h.S_lt, S_src := h.S_src, S_0 := h.S_0, S0_lt := h.S0_lt, tsz := h.tsz, defers := h.defers, below := h.below, gok := h.gok, nlt := h.nlt, lent := fun b hb => by simp only [f', Mb hb, if_true]; exact h.lent b hb, blk := ?_, at_ok := ?_, at_inj := ?_, env := ?_, live := ?_, liveB := ?_ }
 ·intro b k hk; exact Hr (h.blk _ _ (hbl b k hk).2)
 ·intro b k β hk hr hβ
  have h1 := h.at_ok (f' b) (k.ren f') β (hbl b k hk).2 (by rw [HB]; exact hr) hβ
  refine ⟨⟨fun h3 => h1.1.1 ?_, h1.1.2⟩, h1.2⟩
  have h4 := hlen _ (hbl b k hk).1
  simp only [h3] at h4
  rw [hff _ (hbl b k hk).1]
  simpa using h4
 ·intro b c k l β hk hl hr hr' hβ hβ'
  have h1 := h.at_inj (f' b) (f' c) (k.ren f') (l.ren f') β (hbl b k hk).2 (hbl c l hl).2 (by rw [HB]; exact hr) (by rw [HB]; exact hr') hβ hβ'
  rw [hff _ (hbl b k hk).1, hff _ (hbl c l hl).1] at h1
  obtain ⟨i, hi⟩ := List.mem_iff_getElem?.1 (hbl b k hk).1
  obtain ⟨j, hj⟩ := List.mem_iff_getElem?.1 (hbl c l hl).1
  have hi' : ((bl.map (·.1)).map f)[i]? = some (f b) := Ag (Ag hi)
  have hj' : ((bl.map (·.1)).map f)[j]? = some (f c) := Ag (Ag hj)
  have hij : i = j := by
   rcases Nat.lt_trichotomy i j with h2 | h2 | h2
   ·have := List.pairwise_iff_getElem.1 hinj i j (AF hi') (AF hj') h2
    rw [lI] at hi' hj'
    obtain ⟨_, e1⟩ := hi'; obtain ⟨_, e2⟩ := hj'
    exact absurd (e1.trans (h1.trans e2.symm)) this
   ·exact h2
   ·have := List.pairwise_iff_getElem.1 hinj j i (AF hj') (AF hi') h2
    rw [lI] at hi' hj'
    obtain ⟨_, e1⟩ := hi'; obtain ⟨_, e2⟩ := hj'
    exact absurd (e2.trans (h1.symm.trans e1.symm)) this
  subst hij
  rw [hi] at hj; cases hj; rfl
 ·intro s d hs
  exact HF (h.env s _ (he _ (Kk hs)))
 ·intro s d hs b hb'
  have := List.all_eq_true.1 (List.all_eq_true.1 hshut.1 _ (Kk hs)) b hb'
  exact IY this
 ·intro b k hk c hc
  have := List.all_eq_true.1 (List.all_eq_true.1 hshut.2 _ (hbl b k hk).1) c hc
  exact IY this
theorem Ca {st : St} (s b e : Nat) (hs : st.env s = some (one .nil0)) (hb : st.bx b = none) (hlt : Bs b = false) : E8 P X st (St.setB (St.put st (some s) (some (.e (.one (.own b))))) b (.vec e [])) := by
 rintro a w ⟨G, h⟩
 have hv : C1 w G.S (Au a.tmps s) .nil0 := h.env s _ hs
 obtain ⟨a0, ha0⟩ : ∃ a0, Au a.tmps s = .slice a0 0 0 := by
  generalize Au a.tmps s = v at hv
  cases hv; exact ⟨_, rfl⟩
 have hne : ∀ c, (st.bx c).isSome = true → c ≠ b := fun c hc e => by rw [e, hb] at hc; cases hc
 have hext : G.ext (G.set b none (.slice a0 0 0)) (fun b => (st.bx b).isSome = true) := Gh.set_ext _ _ _ _ (by simp [hb])
 have h1 : CZ P X (G.set b none (.slice a0 0 0)) ⟨st.env, (St.setB st b (.vec e [])).bx⟩ a w := by
  refine h.frame ?_ hext (fun _ _ => rfl) ?_ ?_ ?_ h.S_lt h.S_src h.below (Gh.set_lent _ _ hlt)
  ·intro c hc; simp only [St.setB]; split <;> simp [hc]
  ·intro c k hc
   simp only [St.setB] at hc
   split at hc
   ·rename_i e2; subst e2; cases hc
    exact .inr ⟨.inl ⟨a0, by simp [Gh.set], rfl, by simp [Gh.set]⟩, fun c hc => by cases hc⟩
   ·exact .inl ⟨hc, fun _ _ _ => rfl⟩
  ·intro c k β hc hr hβ
   simp only [St.setB] at hc
   rw [Gh.set_has] at hβ
   split at hc
   ·rename_i e2; rw [if_pos e2] at hβ; cases hβ
   ·rename_i e2; rw [if_neg e2] at hβ; exact h.at_ok c k β hc hr hβ
  ·intro c c' k k' β hc hc' hr hr' hβ hβ'
   simp only [St.setB] at hc hc'
   rw [Gh.set_has] at hβ hβ'
   split at hc
   ·rename_i e2; rw [if_pos e2] at hβ; cases hβ
   ·rename_i e2; rw [if_neg e2] at hβ
    split at hc'
    ·rename_i e3; rw [if_pos e3] at hβ'; cases hβ'
    ·rename_i e3; rw [if_neg e3] at hβ'; exact h.at_inj c c' k k' β hc hc' hr hr' hβ hβ'
 refine ⟨G.set b none (.slice a0 0 0), { h1 with env := ?_, live := ?_, blk := h1.blk, at_ok := h1.at_ok, at_inj := h1.at_inj, liveB := h1.liveB, nlt := h1.nlt, lent := h1.lent }⟩
 ·intro t d ht
  simp only [St.setB, St.put] at ht
  split at ht
  ·rename_i e2; cases ht
   rw [e2, ha0]
   exact ⟨by simp [Gh.set], _, _, _, rfl⟩
  ·exact h1.env t d ht
 ·intro t d ht c hc
  simp only [St.setB, St.put] at ht
  split at ht
  ·cases ht
   simp [D.names, E.names, C.names] at hc
   subst hc; simp [St.setB]
  ·exact h1.live t d ht c hc
theorem Aw {st : St} (x k b e : Nat) (cells : List C) (hx : st.bx x = some (.box cells)) (hk : cells[k]? = some (.pure .nil0)) (hb : st.bx b = none) (hlt : Bs b = false) : E8 P X st (St.setB (St.setB st b (.vec e [])) x (.box (cells.set k (.own b)))) := by
 rintro a w ⟨G, h⟩
 obtain ⟨β, arr, el, g1, g2, g3, g4⟩ := h.blk x _ hx
 have hv : C1 w G.S (Au arr k) .nil0 := g4 k _ hk
 obtain ⟨a0, ha0⟩ : ∃ a0, Au arr k = .slice a0 0 0 := by
  generalize Au arr k = v at hv
  cases hv; exact ⟨_, rfl⟩
 have hxb : x ≠ b := fun e => by rw [e, hb] at hx; cases hx
 have hext : G.ext (G.set b none (.slice a0 0 0)) (fun b => (st.bx b).isSome = true) := Gh.set_ext _ _ _ _ (by simp [hb])
 have hbx : ∀ c, (St.setB (St.setB st b (.vec e [])) x (.box (cells.set k (.own b)))).bx c = if c = x then some (.box (cells.set k (.own b))) else if c = b then some (.vec e []) else st.bx c := fun c => rfl
 refine ⟨G.set b none (.slice a0 0 0), ?_⟩
 refine h.frame (bx' := (St.setB (St.setB st b (.vec e [])) x (.box (cells.set k (.own b)))).bx) ?_ hext (fun _ _ => rfl) ?_ ?_ ?_ h.S_lt h.S_src h.below (Gh.set_lent _ _ hlt)
 ·intro c hc; rw [hbx]; split
  ·rfl
  ·split
   ·rfl
   ·exact hc
 ·intro c l hc
  rw [hbx] at hc
  split at hc
  ·rename_i e2; subst e2; cases hc
   refine .inr ⟨⟨β, arr, el, by simp [Gh.set, hxb, g1], g2, by simpa using g3, fun j c hj => ?_⟩, fun c hc => ?_⟩
   ·rcases N1 hj with ⟨rfl, rfl⟩ | ⟨_, hj⟩
    ·rw [ha0]; exact ⟨by simp [Gh.set], _, _, _, rfl⟩
    ·exact (g4 j c hj).mono hext (fun _ _ => rfl) fun b' hb' => h.liveB _ _ hx b' (AU.2 ⟨c, lM hj, hb'⟩)
   ·obtain ⟨u, hu, hcu⟩ := AU.1 hc
    rw [hbx]
    rcases List.mem_or_eq_of_mem_set hu with hm | hm
    ·have := h.liveB _ _ hx c (AU.2 ⟨u, hm, hcu⟩)
     split
     ·rfl
     ·split
      ·rfl
      ·exact this
    ·subst hm
     simp [C.names] at hcu
     subst hcu
     split <;> simp
  ·split at hc
   ·rename_i e3; subst e3; cases hc
    exact .inr ⟨.inl ⟨a0, by simp [Gh.set], rfl, by simp [Gh.set]⟩, fun c hc => by cases hc⟩
   ·exact .inl ⟨hc, fun _ _ _ => rfl⟩
 ·intro c l γ hc hr hγ
  rw [hbx] at hc
  rw [Gh.set_has] at hγ
  split at hc
  ·rename_i e2; subst e2; rw [if_neg hxb] at hγ; exact h.at_ok _ _ γ hx rfl hγ
  ·split at hc
   ·rename_i e3; rw [if_pos e3] at hγ; cases hγ
   ·rename_i e3; rw [if_neg e3] at hγ; exact h.at_ok c l γ hc hr hγ
 ·intro c c' l l' γ hc hc' hr hr' hγ hγ'
  rw [hbx] at hc hc'
  rw [Gh.set_has] at hγ hγ'
  have step : ∀ c l, (if c = x then some (Bg.box (cells.set k (.own b))) else if c = b then some (.vec e []) else st.bx c) = some l → l.real = true → (if c = b then (none : Option Nat) = some γ else G.has c γ) → ∃ l0, st.bx c = some l0 ∧ l0.real = true ∧ G.has c γ := by
   intro c l hc hr hγ
   split at hc
   ·rename_i e2; subst e2; rw [if_neg hxb] at hγ; exact ⟨_, hx, rfl, hγ⟩
   ·split at hc
    ·rename_i e3; rw [if_pos e3] at hγ; cases hγ
    ·rename_i e3; rw [if_neg e3] at hγ; exact ⟨l, hc, hr, hγ⟩
  obtain ⟨m, h1, h2, h3⟩ := step c l hc hr hγ
  obtain ⟨m', h1', h2', h3'⟩ := step c' l' hc' hr' hγ'
  exact h.at_inj c c' m m' γ h1 h1' h2 h2' h3 h3'
def C.frz (b : Nat) (rows : List (List T)) : C → C
 | .own c => if c = b then .pure (.sl rows) else .own c
 | .ptr c k => if c = b then .any else .ptr c k
 | .eptr c e i k => if c = b then .any else .eptr c e i k
 | .view c e lo len => if c = b then .any else .view c e lo len
 | .mref c => if c = b then .any else .mref c
 | .cls f caps => if b ∈ DQ caps then .any else .cls f caps
 | c => c
def E.frz (b : Nat) (rows : List (List T)) : E → E
 | .one c => .one (c.frz b rows)
 | .agg cs => .agg (cs.map (C.frz b rows))
def D.frz (b : Nat) (rows : List (List T)) : D → D
 | .e x => .e (x.frz b rows)
 | .tup xs => .tup (xs.map (E.frz b rows))
def Bg.frz (b : Nat) (rows : List (List T)) : Bg → Bg
 | .box cs => .box (cs.map (C.frz b rows))
 | .hol e cols i k c rs => if c = b then .gone else .hol e cols i k c rs
 | k => k
def St.frz (st : St) (b : Nat) (rows : List (List T)) : St :=
 ⟨fun s => (st.env s).map (D.frz b rows), fun c => if c = b then none else (st.bx c).map (Bg.frz b rows)⟩
theorem Rt {w : World} {G : Gh} {b : Nat} {rows : List (List T)} {S' : Nat → Prop} {v : Value} {c : C} (h : Ed P w G v c) (hS : ∀ β, G.S β → S' β) (hrow : C1 w S' (G.hd b) (.sl rows)) : Ed P w { G with S := S' } v (c.frz b rows) := by
 cases c with
 | pure t => exact C1.mono h (fun _ _ => rfl) hS
 | own c =>
  simp only [C.frz]
  split
  ·rename_i e; subst e
   have : v = G.hd c := h.1
   subst this
   exact hrow
  ·exact h
 | ptr c k =>
  simp only [C.frz]
  split
  ·exact Ed.one h
  ·exact h
 | eptr c e i k =>
  simp only [C.frz]
  split
  ·exact Ed.one h
  ·exact h
 | view c e lo len =>
  simp only [C.frz]
  split
  ·exact Ed.one h
  ·exact h
 | mref c =>
  simp only [C.frz]
  split
  ·exact Ed.one h
  ·exact h
 | rop ts =>
  obtain ⟨β, off, arr, el, fz, h1, h2, h3, h4, h5⟩ := h
  exact ⟨β, off, arr, el, fz, h1, hS _ h2, h3, h4, fun j t hj => (h5 j t hj).mono (fun _ _ => rfl) hS⟩
 | clo g => exact Km.mono h (fun _ _ => rfl) hS
 | any => exact h
 | nilq p => exact h
 | fnc f => exact h
 | cls f caps =>
  simp only [C.frz]
  split
  ·exact Ed.one h
  ·exact Ed.mono (p := fun _ => True) h ⟨hS, fun _ _ => rfl, fun _ _ => rfl, fun _ _ => rfl⟩ (fun _ _ => rfl) fun _ _ => trivial
theorem Uj {w : World} {G : Gh} {b : Nat} {rows : List (List T)} {S' : Nat → Prop} {v : Value} {x : E} (h : Il P w G v x) (hS : ∀ β, G.S β → S' β) (hrow : C1 w S' (G.hd b) (.sl rows)) : Il P w { G with S := S' } v (x.frz b rows) := by
 cases x with
 | one c => exact Rt h hS hrow
 | agg cs =>
  obtain ⟨vs, e, hs, h⟩ := h
  refine ⟨vs, e, by simp [hs], fun j c hj => ?_⟩
  rw [List.getElem?_map] at hj
  cases hx : cs[j]? with
  | none => rw [hx] at hj; cases hj
  | some c0 => rw [hx] at hj; cases hj; exact Rt (h j c0 hx) hS hrow
theorem Vs {w : World} {G : Gh} {b : Nat} {rows : List (List T)} {S' : Nat → Prop} {v : Value} {d : D} (h : F9 P w G v d) (hS : ∀ β, G.S β → S' β) (hrow : C1 w S' (G.hd b) (.sl rows)) : F9 P w { G with S := S' } v (d.frz b rows) := by
 cases d with
 | e x => exact Uj h hS hrow
 | tup xs =>
  obtain ⟨vs, e, hs, h⟩ := h
  refine ⟨vs, e, by simp [hs], fun j c hj => ?_⟩
  rw [List.getElem?_map] at hj
  cases hx : xs[j]? with
  | none => rw [hx] at hj; cases hj
  | some c0 => rw [hx] at hj; cases hj; exact Uj (h j c0 hx) hS hrow
theorem Lj {b : Nat} {rows : List (List T)} {c : C} {x : Nat} (h : x ∈ (c.frz b rows).names) : x ∈ c.names ∧ x ≠ b := by
 cases c with
 | own c =>
  simp only [C.frz] at h
  split at h
  ·cases h
  ·rename_i e; simp [C.names] at h ⊢; subst h; exact ⟨rfl, e⟩
 | ptr c k =>
  simp only [C.frz] at h
  split at h
  ·cases h
  ·rename_i e; simp [C.names] at h ⊢; subst h; exact ⟨rfl, e⟩
 | eptr c e i k =>
  simp only [C.frz] at h
  split at h
  ·cases h
  ·rename_i e; simp [C.names] at h ⊢; subst h; exact ⟨rfl, e⟩
 | view c e lo len =>
  simp only [C.frz] at h
  split at h
  ·cases h
  ·rename_i e; simp [C.names] at h ⊢; subst h; exact ⟨rfl, e⟩
 | mref c =>
  simp only [C.frz] at h
  split at h
  ·cases h
  ·rename_i e; simp [C.names] at h ⊢; subst h; exact ⟨rfl, e⟩
 | cls f caps =>
  simp only [C.frz] at h
  split at h
  ·cases h
  ·rename_i e; exact ⟨h, fun e2 => e (e2 ▸ h)⟩
 | _ => cases h
theorem L2 {b : Nat} {rows : List (List T)} {cs : List C} {x : Nat} (h : x ∈ DZ (cs.map (C.frz b rows))) : x ∈ DZ cs ∧ x ≠ b := by
 obtain ⟨c, hc, hx⟩ := AU.1 h
 obtain ⟨c0, h0, rfl⟩ := List.mem_map.1 hc
 obtain ⟨h1, h2⟩ := Lj hx
 exact ⟨AU.2 ⟨c0, h0, h1⟩, h2⟩
theorem Lf {b : Nat} {rows : List (List T)} {y : E} {x : Nat} (h : x ∈ (y.frz b rows).names) : x ∈ y.names ∧ x ≠ b := by
 cases y with
 | one c => exact Lj h
 | agg cs => exact L2 h
theorem OV {b : Nat} {rows : List (List T)} {d : D} {x : Nat} (h : x ∈ (d.frz b rows).names) : x ∈ d.names ∧ x ≠ b := by
 cases d with
 | e y => exact Lf h
 | tup xs =>
  obtain ⟨c, hc, hx⟩ := Dv.1 h
  obtain ⟨c0, h0, rfl⟩ := List.mem_map.1 hc
  obtain ⟨h1, h2⟩ := Lf hx
  exact ⟨Dv.2 ⟨c0, h0, h1⟩, h2⟩
theorem AW {st : St} (b e : Nat) (rows : List (List T)) (hb : st.bx b = some (.vec e rows)) (hlt : Bs b = false) : E8 P X st (st.frz b rows) := by
 rintro a w ⟨G, h⟩
 let S' : Nat → Prop := fun β => G.S β ∨ G.loc b = some β
 have hS : ∀ β, G.S β → S' β := fun β h => .inl h
 have hrow : C1 w S' (G.hd b) (.sl rows) := by
  rcases h.blk b _ hb with ⟨a0, h1, h2, _⟩ | ⟨β, cap, arr, el, h0, h1, h2, h3, h4, h5, h6⟩
  ·rw [h1, h2]; exact .nil _ _
  ·rw [h1]
   exact .sl β 0 cap e arr el (0, 0) rows (.inr h0) h2 h3 (by rw [h4, Nat.zero_add]; exact Nat.mul_le_mul_right e h3) h5 (fun i row j t hi hj => by rw [Nat.zero_add]; exact (h6 i row j t hi hj).mono (fun _ _ => rfl) hS)
 have hbk : ∀ c k, (st.frz b rows).bx c = some k → c ≠ b ∧ ∃ k0, st.bx c = some k0 ∧ k = k0.frz b rows := fun c k hc => by
  simp only [St.frz] at hc
  split at hc
  ·cases hc
  ·rename_i e
   cases hx : st.bx c with
   | none => rw [hx] at hc; cases hc
   | some k0 => rw [hx] at hc; exact ⟨e, k0, rfl, by simpa using hc.symm⟩
 have hreal : ∀ k : Bg, (k.frz b rows).real = true → k.real = true := fun k hk => by
  cases k <;> first | rfl | exact hk
 have hlv : ∀ c, (st.bx c).isSome = true → c ≠ b → ((st.frz b rows).bx c).isSome = true := fun c hc hne => by
  simp only [St.frz]; rw [if_neg hne]; simpa using hc
 refine ⟨{ G with S := S' }, ?_⟩
 refine { S_lt := ?_, S_src := ?_, S_0 := fun β hβ => .inl (h.S_0 β hβ), S0_lt := h.S0_lt, tsz := h.tsz, defers := h.defers, below := h.below, gok := h.gok.mono (fun _ _ => rfl) (fun _ hβ => .inl hβ), nlt := h.nlt, lent := h.lent, blk := ?_, at_ok := ?_, at_inj := ?_, env := ?_, live := ?_, liveB := ?_ }
 ·rintro β (hβ | hβ)
  ·exact h.S_lt β hβ
  ·exact (h.at_ok b _ β hb rfl (.inl hβ)).2.1
 ·rintro β (hβ | hβ)
  ·exact h.S_src β hβ
  ·exact .inr ((h.at_ok b _ β hb rfl (.inl hβ)).1.1 hlt)
 ·intro c k hc
  obtain ⟨hne, k0, h0, rfl⟩ := hbk c k hc
  have := h.blk c k0 h0
  cases k0 with
  | box cells =>
   obtain ⟨β, arr, el, h1, h2, h3, h4⟩ := this
   refine ⟨β, arr, el, h1, h2, by simp [h3], fun j u hj => ?_⟩
   rw [List.getElem?_map] at hj
   cases hx : cells[j]? with
   | none => rw [hx] at hj; cases hj
   | some c0 => rw [hx] at hj; cases hj; exact Rt (h4 j c0 hx) hS hrow
  | vec e' rows' =>
   rcases this with h1 | ⟨β, cap, arr, el, h0, h1, h2, h3, h4, h5, h6⟩
   ·exact .inl h1
   ·exact .inr ⟨β, cap, arr, el, h0, h1, h2, h3, h4, h5, fun i row j t hi hj => (h6 i row j t hi hj).mono (fun _ _ => rfl) hS⟩
  | mp es =>
   obtain ⟨β, arr, clock, h1, h2, h3, h4⟩ := this
   exact ⟨β, arr, clock, h1, h2, h3, fun i x hi => by
    obtain ⟨m, e1, e2, e3⟩ := h4 i x hi
    exact ⟨m, e1, e2, e3.mono (fun _ _ => rfl) hS⟩⟩
  | dvec e cols rs =>
   rcases this with h1 | ⟨β, cap, arr, el, Rf, h0, h1, h2, h3, h4, h5, h6, h7, h8, h9⟩
   ·exact .inl h1
   ·exact .inr ⟨β, cap, arr, el, Rf, h0, h1, h2, h3, h4, h5, fun i row j t hi hj => (h6 i row j t hi hj).mono (fun _ _ => rfl) hS (fun _ h => h), h7, h8, h9⟩
  | pvec n_ e cols rs =>
   obtain ⟨hn_, this⟩ := this
   refine ⟨hn_, ?_⟩
   rcases this with h1 | ⟨β, cap, arr, el, Rf, h0, h1, h2, h3, h4, h5, h6, h7, h8, h9⟩
   ·exact .inl h1
   ·exact .inr ⟨β, cap, arr, el, Rf, h0, h1, h2, h3, h4, h5, fun i row j t hi hj => (h6 i row j t hi hj).mono (fun _ _ => rfl) hS (fun _ h => h), h7, h8, h9⟩
  | hol e cols i0 k1 c1 rs =>
   simp only [Bg.frz]
   split
   ·trivial
   ·obtain ⟨β, cap, arr, el, Rf, h0, h1, h2, h3, h4, h5, h6, h7, h8, h9, h10, h11⟩ := this
    exact ⟨β, cap, arr, el, Rf, h0, h1, h2, h3, h4, h5, fun i row j t hi hj hne => (h6 i row j t hi hj hne).mono (fun _ _ => rfl) hS (fun _ h => h), h7, h8, h9, h10, h11⟩
  | gone => trivial
 ·intro c k β hc hr hβ
  obtain ⟨hne, k0, h0, rfl⟩ := hbk c k hc
  have hr := hreal _ hr
  have h1 := h.at_ok c k0 β h0 hr hβ
  refine ⟨h1.1, h1.2.1, ?_⟩
  rintro (h2 | h2)
  ·exact h1.2.2 h2
  ·exact hne (h.at_inj c b k0 _ β h0 hb hr rfl hβ (.inl h2))
 ·intro c c' k k' β hc hc' hr hr' hβ hβ'
  obtain ⟨_, k0, h0, rfl⟩ := hbk c k hc
  obtain ⟨_, k0', h0', rfl⟩ := hbk c' k' hc'
  have hr := hreal _ hr
  have hr' := hreal _ hr'
  exact h.at_inj c c' k0 k0' β h0 h0' hr hr' hβ hβ'
 ·intro s d hs
  simp only [St.frz] at hs
  cases hx : st.env s with
  | none => rw [hx] at hs; cases hs
  | some d0 => rw [hx] at hs; cases hs; exact Vs (h.env s d0 hx) hS hrow
 ·intro s d hs c hc
  simp only [St.frz] at hs
  cases hx : st.env s with
  | none => rw [hx] at hs; cases hs
  | some d0 =>
   rw [hx] at hs; cases hs
   obtain ⟨h1, h2⟩ := OV hc
   exact hlv c (h.live s d0 hx c h1) h2
 ·intro c k hc x hx
  obtain ⟨_, k0, h0, rfl⟩ := hbk c k hc
  cases k0 with
  | box cells =>
   obtain ⟨h1, h2⟩ := L2 hx
   exact hlv x (h.liveB c _ h0 x h1) h2
  | vec e' rows' => cases hx
  | mp es => cases hx
  | dvec e cols rs => cases hx
  | pvec n_ e cols rs => cases hx
  | hol e cols i0 k1 c1 rs =>
   simp only [Bg.frz] at hx
   split at hx
   ·cases hx
   ·rename_i hne
    have hx' : x = c1 := by simpa [Bg.names] using hx
    subst hx'
    exact hlv x (h.liveB c _ h0 x (by simp [Bg.names])) hne
  | gone => cases hx
end Go.Lift
namespace Go.Lift
open List renaming mem_of_getElem? → lM
open Go.RowKit
variable {P : Program} {X : G7}
def UL (args : List D) : St := ⟨fun s => args[s]?, fun _ => none⟩
inductive RR (P : Program) (st : St) : ResultVar → E → Prop where
 | tmp (t : Nat) (x : E) (h : st.env t = some (.e x)) : RR P st (.tmp t) x
 | cell1 (a t b k : Nat) (cells : List C) (c : C) (h1 : st.env a = some (.e (.one (.ptr b k)))) (h2 : st.bx b = some (.box cells)) (h3 : D7 P t false = true) (h4 : cells[k]? = some c) : RR P st (.cell a t) (.one c)
 | cellN (a t b k n : Nat) (cells cs : List C) (h1 : st.env a = some (.e (.one (.ptr b k)))) (h2 : st.bx b = some (.box cells)) (h3 : D7 P t true = true) (h4 : Gs P t n = true) (h5 : (cells.drop k).take n = cs) (h6 : cs.length = n) (h7 : 0 < n) : RR P st (.cell a t) (.agg cs)
def VV (P : Program) (st : St) : List ResultVar → List E → Prop
 | [], [] => True
 | v :: vs, x :: xs => RR P st v x ∧ VV P st vs xs
 | _, _ => False
def VD : List E → D
 | [x] => .e x
 | xs => .tup xs
def Qf (bx : Nat → Option Bg) : Nat → List (Nat × List (List T)) → Prop
 | _, [] => True
 | k, x :: xs => bx (1000 + k) = some (.vec x.1 x.2) ∧ Qf bx (k + 1) xs
theorem HL {bx : Nat → Option Bg} : ∀ {rv : List (Nat × List (List T))} {m : Nat}, Qf bx m rv → ∀ (k : Nat) (x : Nat × List (List T)), rv[k]? = some x → bx (1000 + (m + k)) = some (.vec x.1 x.2)
 | y :: rv, m, h, 0, x, hk => by simp at hk; subst hk; exact h.1
 | y :: rv, m, h, k + 1, x, hk => by
  have := HL h.2 k x (by simpa using hk)
  rwa [show m + 1 + k = m + (k + 1) from by omega] at this
structure Sd (P : Program) (rs : List ResultVar) (st : St) (rv : List (Nat × List (List T))) (res : D) : Prop where
 r : ∃ xs, VV P st rs xs ∧ VD xs = res.ren (fun k => 1000 + k)
 v : Qf st.bx 0 rv
theorem CZ.rr {G : Gh} {st : St} {a : Act} {w : World} (hs : CZ P X G st a w) {v : ResultVar} {x : E} (h : RR P st v x) :
  ∃ u, (match v with | .tmp t => pure (a.tmps.getD t undef) | .cell b t => do loadVar t (← asAddr (a.tmps.getD b undef)) : Sem Value).run P w = .ok u w ∧ Il P w G u x := by
 have hget : ∀ t, a.tmps.getD t undef = Au a.tmps t := fun t => by simp [Au]
 cases h with
 | tmp t x h => exact ⟨_, rfl, by rw [hget]; exact hs.env t _ h⟩
 | cell1 b t n k cells c h1 h2 h3 h4 =>
  obtain ⟨β, hβ, hv⟩ : Ed P w G (Au a.tmps b) (.ptr n k) := hs.env b _ h1
  obtain ⟨β', arr, el, g1, g2, g3, g4⟩ := hs.blk n _ h2
  rw [hβ] at g1; cases g1
  have hk := AF h4
  refine ⟨Au arr k, ?_, g4 k c h4⟩
  simp only [hget, hv]
  refine Ak (a := (⟨β, k, none⟩ : Addr)) (w1 := w) rfl ?_
  unfold loadVar
  refine Ak (Hi h3 w) ?_
  exact Na g2 (by omega)
 | cellN b t n k m cells cs h1 h2 h3 h4 h5 h6 h7 =>
  obtain ⟨β, hβ, hv⟩ : Ed P w G (Au a.tmps b) (.ptr n k) := hs.env b _ h1
  obtain ⟨β', arr, el, g1, g2, g3, g4⟩ := hs.blk n _ h2
  rw [hβ] at g1; cases g1
  have hk : k + m ≤ cells.length := by
   have := congrArg List.length h5
   simp at this; omega
  refine ⟨.agg ((List.range m).map fun j => Au arr (k + j)).toArray, ?_, ⟨_, rfl, by simp [h6], fun j c hj => ?_⟩⟩
  ·simp only [hget, hv]
   refine Ak (a := (⟨β, k, none⟩ : Addr)) (w1 := w) rfl ?_
   unfold loadVar
   refine Ak (Hi h3 w) ?_
   simp only [if_true]
   exact Ak (DM h4 w) (Ak (Ia g2 (by omega)) rfl)
  ·have hjn := AF hj
   rw [Hb (by omega)]
   rw [← h5, List.getElem?_take_of_lt (by omega), List.getElem?_drop] at hj
   exact g4 _ c hj
theorem CZ.rrs {G : Gh} {st : St} {a : Act} {w : World} (hs : CZ P X G st a w) : ∀ {vs : List ResultVar} {xs : List E}, VV P st vs xs →
  ∃ us : List Value, (vs.mapM fun v => (match v with | .tmp t => pure (a.tmps.getD t undef) | .cell b t => do loadVar t (← asAddr (a.tmps.getD b undef)) : Sem Value)).run P w = .ok us w ∧ us.length = xs.length ∧ ∀ (j : Nat) (u : Value) (x : E), us[j]? = some u → xs[j]? = some x → Il P w G u x
 | [], [], _ => ⟨[], rfl, rfl, fun j u x h => by simp at h⟩
 | v :: vs, x :: xs, h => by
  obtain ⟨u, h1, h2⟩ := hs.rr h.1
  obtain ⟨us, h3, h4, h5⟩ := hs.rrs h.2
  refine ⟨u :: us, ?_, by simp [h4], fun j u' x' hu hx => ?_⟩
  ·rw [List.mapM_cons]
   exact Ak h1 (Ak h3 rfl)
  ·cases j with
   | zero => simp at hu hx; subst hu; subst hx; exact h2
   | succ j => exact h5 j u' x' (by simpa using hu) (by simpa using hx)
theorem Qu {S : Nat → Prop} {β : Nat} (h : (G0 S).lent β) : False := by
 obtain ⟨b, _, h | h⟩ := h
 ·cases h
 ·exact h
theorem CL.none {S : Nat → Prop} {B : Nat} {w w' : World} (h : CL (G0 S).lent B w w') : SO B w w' := ⟨⟨h.os, h.tape, h.output, h.size, fun k hk => h.block k hk Qu⟩, h.drawn⟩
theorem MH {f n : Nat} {fn : Func} {c : Code} {args : List D} {rv : List (Nat × List (List T))} {res : D} {rs : List ResultVar} (hf : P.funcs[f]? = some fn) (hb : fn.body = some c) (hn : fn.ntmps = n) (hrs : fn.results.toList = rs) (hl : args.length ≤ n) (hn9 : n ≤ 90000) (hpub : args.all Rq = true)
  (h : ∀ (w0 : World) (S0 : Nat → Prop), W P ⟨w0, S0, n, G0 S0⟩ c (fun e st => match e with | .normal | .ret => Sd P rs st rv res | _ => False) (UL args)) : As P f args rv res := by
 subst hn; subst hrs
 intro w S vs hS hgk hlen hargs
 refine calls_of_wp hf hb ?_
 have hcell : ∀ j, j < args.length → Au (vs ++ Array.replicate (fn.ntmps - vs.size) undef) j = Au vs j := fun j hj => Cx (by omega)
 have hinit : CZ P ⟨w, S, fn.ntmps, G0 S⟩ (G0 S) (UL args) { tmps := vs ++ Array.replicate (fn.ntmps - vs.size) undef, defers := [] } w := by
  refine { S_lt := hS, S_src := fun β h => .inl h, S_0 := fun β h => h, S0_lt := hS, tsz := by simp; omega, defers := rfl, below := CL.refl _ _ _, gok := hgk, nlt := hn9, lent := fun _ _ => ⟨rfl, rfl, rfl⟩, blk := ?_, at_ok := ?_, at_inj := ?_, env := ?_, live := ?_, liveB := ?_ }
  ·intro b k hk; cases hk
  ·intro b k β hk; cases hk
  ·intro b c k l β hk; cases hk
  ·intro s d hs
   have hs' : args[s]? = some d := hs
   rw [hcell s (AF hs')]
   exact hargs s d hs'
  ·intro s d hs b hb
   have hs' : args[s]? = some d := hs
   have := List.all_eq_true.1 hpub d (lM hs')
   simp [Rq] at this
   rw [this] at hb; cases hb
  ·intro b k hk; cases hk
 refine wp_mono (h w S _ w ⟨_, hinit⟩) ?_
 rintro e a' w' ⟨st', hq, G, hs⟩
 have key : Sd P fn.results.toList st' rv res → a'.defers = [] ∧ ∃ v, (results fn a'.tmps).run P w' = .ok v w' ∧ ∃ v' G', Ending.returned v = .returned v' ∧ SO w.heap.size w w' ∧ (∀ β, S β → G'.S β) ∧ (∀ β, G'.S β → S β ∨ (w.heap.size ≤ β ∧ β < w'.heap.size)) ∧ F9 P w' G' v' res ∧
   (∀ (k : Nat) (x : Nat × List (List T)), rv[k]? = some x → EP P w' G' k (.vec x.1 x.2)) ∧
   (∀ k β, k < rv.length → G'.has k β → w.heap.size ≤ β ∧ β < w'.heap.size ∧ ¬ G'.S β) ∧
   (∀ k l β, k < rv.length → l < rv.length → G'.has k β → G'.has l β → k = l) := by
  rintro ⟨⟨xs, hr1, hr2⟩, hv⟩
  obtain ⟨us, h1, h2, h3⟩ := hs.rrs hr1
  refine ⟨hs.defers, (if h : us.toArray.size = 1 then us.toArray[0] else .tuple us.toArray), ?_, _, { S := G.S, loc := fun b => G.loc (1000 + b), hd := fun b => G.hd (1000 + b), more := fun b => G.more (1000 + b) }, rfl, hs.below.none, hs.S_0, ?_, ?_, ?_, ?_, ?_⟩
  ·unfold results
   refine Ak (a := us.toArray) (w1 := w') ?_ rfl
   rw [Array.mapM_eq_mapM_toList]
   simp only [Sem.run_map]
   exact congrArg (fun r => Result.andThen r fun a w' => Result.ok a.toArray w') h1
  ·intro β hβ
   rcases hs.S_src β hβ with h | h
   ·exact .inl h
   ·exact .inr ⟨h, hs.S_lt β hβ⟩
  ·refine HF (f := fun k => 1000 + k) ?_
   rw [← hr2]
   match xs, us, h2 with
   | [], [], _ => exact ⟨#[], rfl, rfl, fun j x h => by simp at h⟩
   | [x], [u], _ => exact h3 0 u x rfl rfl
   | x :: y :: xs, u :: u' :: us, hl2 =>
    refine ⟨(u :: u' :: us).toArray, by simp, by simpa using hl2, fun j z hj => ?_⟩
    have hlt := AF hj
    have hu : (u :: u' :: us)[j]? = some ((u :: u' :: us)[j]'(by rw [hl2]; exact hlt)) := by rw [List.getElem?_eq_getElem]
    have := h3 j _ z hu hj
    have hc : Au (u :: u' :: us).toArray j = (u :: u' :: us)[j]'(by rw [hl2]; exact hlt) := by
     unfold Au
     rw [List.getElem?_toArray, hu]; rfl
    rw [hc]; exact this
  ·intro k x hk
   have := HL hv k x hk
   rw [Nat.zero_add] at this
   exact hs.blk _ _ this
  ·intro k β hk hβ
   have hx : rv[k]? = some rv[k] := by simp [hk]
   have := HL hv k _ hx
   rw [Nat.zero_add] at this
   have h1 := hs.at_ok _ _ β this rfl hβ
   exact ⟨by
    rcases h1.1.2 with h | h
    ·exact h
    ·exact (Qu h).elim, h1.2⟩
  ·intro k l β hk hl hβ hβ'
   have hx : rv[k]? = some rv[k] := by simp [hk]
   have hx' : rv[l]? = some rv[l] := by simp [hl]
   have h4 := HL hv k _ hx
   have h5 := HL hv l _ hx'
   rw [Nat.zero_add] at h4 h5
   have := hs.at_inj _ _ _ _ β h4 h5 rfl rfl hβ hβ'
   omega
 cases e with
 | normal => exact key hq
 | ret => exact key hq
 | _ => exact hq.elim
def C.shr (rv : List (Nat × List (List T))) : C → C
 | .own k => match rv[k]? with
  | some x => .pure (.sl x.2)
  | none => .own k
 | .ptr _ _ => .any
 | .eptr _ _ _ _ => .any
 | .view _ _ _ _ => .any
 | .mref _ => .any
 | .cls _ _ => .any
 | c => c
def E.shr (rv : List (Nat × List (List T))) : E → E
 | .one c => .one (c.shr rv)
 | .agg cs => .agg (cs.map (C.shr rv))
def D.shr (rv : List (Nat × List (List T))) : D → D
 | .e x => .e (x.shr rv)
 | .tup xs => .tup (xs.map (E.shr rv))
end Go.Lift
namespace Go.Lift
open Go.RowKit
def BK {α : Type} (xs : List α) (i : Int) : Option α := if 0 ≤ i then xs[i.toNat]? else none
def Dl (p : Prop) [Decidable p] : Option Unit := if p then some () else none
def AL {α : Type} (b : Bool) (x y : Option α) : Option α := match b with | true => x | false => y
def Bf {α β : Type} (k : α) (f : α → β) : β := f k
theorem Fq {a b : Nat} (h : Nat.blt a b = true) : a < b := by rw [← Nat.blt_eq]; exact h
theorem Iq {a b : Nat} (h : Nat.ble a b = true) : a ≤ b := Nat.le_of_ble_eq_true h
theorem bind_some {α β : Type} {x : Option α} {f : α → Option β} {r : β} (h : x.bind f = some r) : ∃ a, x = some a ∧ f a = some r := by
 cases x with
 | none => cases h
 | some a => exact ⟨a, rfl, h⟩
theorem Sb {α β : Type} {xs : List α} {i : Int} {f : α → Option β} {r : β} (h : (BK xs i).bind f = some r) : ∃ x, 0 ≤ i ∧ xs[i.toNat]? = some x ∧ f x = some r := by
 obtain ⟨x, h1, h2⟩ := bind_some h
 unfold BK at h1
 split at h1
 ·rename_i h0; exact ⟨x, h0, h1, h2⟩
 ·cases h1
theorem EQ {β : Type} {p : Prop} [Decidable p] {f : Unit → Option β} {r : β} (h : (Dl p).bind f = some r) : p ∧ f () = some r := by
 obtain ⟨x, h1, h2⟩ := bind_some h
 unfold Dl at h1
 split at h1
 ·rename_i h0; exact ⟨h0, h2⟩
 ·cases h1
theorem Uk {α : Type} {b : Bool} {x y : Option α} {r : α} (hb : b = true) (h : AL b x y = some r) : x = some r := by subst hb; exact h
theorem T9 {α : Type} {b : Bool} {x y : Option α} {r : α} (hb : b = false) (h : AL b x y = some r) : y = some r := by subst hb; exact h
theorem To {α β : Type} (f : α → β) (xs ys : List α) : xs.map f ++ ys.map f = (xs ++ ys).map f := by simp
theorem Ec {α β : Type} (f : α → β) (xs : List α) (i : Nat) (y : α) : (xs.map f).set i (f y) = (xs.set i y).map f := by rw [List.map_set]
theorem QK {α β : Type} (f : α → β) (n : Nat) (y : α) : List.replicate n (f y) = (List.replicate n y).map f := by simp
theorem GO {α β : Type} (f : α → β) (xs : List α) (l n m : Nat) (h : n = m) : ((xs.map f).drop l).take n = ((xs.drop l).take m).map f := by rw [h, List.map_take, List.map_drop]
theorem FI {α : Type} {f : α → List T} {n : Nat} (h : ∀ x, (f x).length = n) (xs : List α) : ∀ (i : Nat) (row : List T), (xs.map f)[i]? = some row → row.length = n := by
 intro i row hi
 rw [List.getElem?_map] at hi
 cases hx : xs[i]? with
 | none => rw [hx] at hi; cases hi
 | some x => rw [hx] at hi; cases hi; exact h x
theorem S4 {α β γ δ : Type} {f : α → γ} {g : β → δ} {xs : List α} {ys : List β} (h : xs.length + ys.length ≤ Dx) : (xs.map f).length + (ys.map g).length ≤ Dx := by simpa using h
def rn (l : List (Nat × Nat)) (b : Nat) : Nat := (PD l b).getD b
section
variable {P : Program} {X : G7}
theorem E8.trans {a b c : St} (h : E8 P X a b) (h2 : E8 P X b c) : E8 P X a c := fun x w hs => h2 x w (h x w hs)
theorem E8.refl {a : St} : E8 P X a a := fun _ _ hs => hs
theorem R7 {V R : Type} {J : V → Option R} {r : R} {S : V → St} {s : St} (v : V) (h : J v = some r) (hs : E8 P X s (S v)) : ∃ v, J v = some r ∧ E8 P X s (S v) := ⟨v, h, hs⟩
theorem AM {V R : Type} {x y : Code} {Q : Exit → St → Prop} {st : St} {K : V → Option R} {F : (V → Option R) → Option R} {r : R} (h : Bf K F = some r) (S : V → St)
  (h1 : ∀ J : V → Option R, F J = some r → W P X x (Nc (fun s => ∃ v, J v = some r ∧ E8 P X s (S v)) Q) st) (h2 : ∀ v, K v = some r → W P X y Q (S v)) : W P X (.seq x y) Q st := by
 refine AP (UY (h1 K h) ?_)
 intro e s hs
 cases e with
 | normal => obtain ⟨v, h3, h4⟩ := hs; exact Ae h4 (h2 v h3)
 | _ => exact hs
def Uu (id : Nat) (next brk : St → Prop) (Q : Exit → St → Prop) : Exit → St → Prop
 | .normal, s => next s
 | .exit id', s => if id' = id then brk s else Q (.exit id') s
 | e, s => Q e s
theorem AJ {V V' R : Type} {id : Nat} {body : Code} {Q : Exit → St → Prop} {st : St} {L : (V' → Option R) → Nat → V → Option R} {K : V' → Option R} {n : Nat} {v0 : V} {r : R} (h : L K n v0 = some r) (S : V → St) (S' : V' → St)
  (h0 : ∀ J v, L J 0 v = none) (hst : E8 P X st (S v0))
  (round : ∀ (J : V' → Option R) (n : Nat) (v : V), L J (n + 1) v = some r → W P X body (Uu id (fun s => ∃ v2, L J n v2 = some r ∧ E8 P X s (S v2)) (fun s => ∃ v', J v' = some r ∧ E8 P X s (S' v')) Q) (S v))
  (h2 : ∀ v' s, K v' = some r → E8 P X s (S' v') → Q .normal s) : W P X (.block id (.loop body)) Q st := by
 refine Ae hst (AO ?_)
 refine U7 (fun n s => ∃ v, L K n v = some r ∧ s = S v) n ⟨v0, h, rfl⟩ ?_
 rintro n s ⟨v, hv, rfl⟩
 cases n with
 | zero => rw [h0] at hv; cases hv
 | succ n =>
  intro a w hs
  refine wp_mono (round K n v hv a w hs) ?_
  rintro e a' w' ⟨s, hq, hs'⟩
  cases e with
  | normal =>
   obtain ⟨v2, h3, h4⟩ := hq
   exact ⟨S v2, ⟨n, Nat.lt_succ_self n, v2, h3, rfl⟩, h4 a' w' hs'⟩
  | exit id' =>
   simp only [Uu] at hq
   by_cases e : id' = id
   ·rw [if_pos e] at hq
    obtain ⟨v', h3, h4⟩ := hq
    refine ⟨s, ?_, hs'⟩
    simp only [Nc, N5, e, if_true]
    exact h2 v' s h3 h4
   ·rw [if_neg e] at hq
    refine ⟨s, ?_, hs'⟩
    simp only [Nc, N5, e, if_false]
    exact hq
  | goto l => exact ⟨s, hq, hs'⟩
  | ret => exact ⟨s, hq, hs'⟩
  | panic c => exact ⟨s, hq, hs'⟩
  | outgrown => exact ⟨s, hq, hs'⟩
theorem LW {st : St} (s : Nat) (d : D) (hs : st.env s = some d) : E8 P X st (St.put st (some s) (some d.nrm)) := by
 rintro a w ⟨G, h⟩
 refine ⟨G, { h with env := ?_, live := ?_, blk := h.blk, at_ok := h.at_ok, at_inj := h.at_inj, liveB := h.liveB, nlt := h.nlt, lent := h.lent }⟩
 ·intro t d' ht
  simp only [St.put] at ht
  split at ht
  ·rename_i e; cases ht; rw [e]; exact (h.env s d hs).nrm
  ·exact h.env t d' ht
 ·intro t d' ht b hb
  simp only [St.put] at ht
  split at ht
  ·cases ht
   refine h.live s d hs b ?_
   have hC : ∀ {c : C} {b : Nat}, b ∈ c.nrm.names → b ∈ c.names := by
    intro c b hb
    cases c with
    | cls f caps => exact (show b ∈ DQ caps from (Iv caps) ▸ (show b ∈ DQ (caps.map Gx.nrm) from hb))
    | _ => exact hb
   have hE : ∀ {x : E} {b : Nat}, b ∈ x.nrm.names → b ∈ x.names := by
    intro x b hb
    cases x with
    | one c => exact hC hb
    | agg cs =>
     obtain ⟨c, hc, hbc⟩ := AU.1 hb
     obtain ⟨c0, h0, rfl⟩ := List.mem_map.1 hc
     exact AU.2 ⟨c0, h0, hC hbc⟩
   cases d with
   | e x => exact hE hb
   | tup xs =>
    obtain ⟨c, hc, hbc⟩ := Dv.1 hb
    obtain ⟨c0, h0, rfl⟩ := List.mem_map.1 hc
    exact Dv.2 ⟨c0, h0, hE hbc⟩
  ·exact h.live t d' ht b hb
theorem Dn {st : St} (b : Nat) (cells : List C) (hb : st.bx b = some (.box cells)) : E8 P X st (St.setB st b (.box (cells.map C.nrm))) := by
 rintro a w ⟨G, h⟩
 refine ⟨G, ?_⟩
 have hC : ∀ {c : C} {b : Nat}, b ∈ c.nrm.names → b ∈ c.names := by
    intro c b hb
    cases c with
    | cls f caps => exact (show b ∈ DQ caps from (Iv caps) ▸ (show b ∈ DQ (caps.map Gx.nrm) from hb))
    | _ => exact hb
 refine h.frame (bx' := (St.setB st b (.box (cells.map C.nrm))).bx) ?_ ⟨fun _ h => h, fun _ _ => rfl, fun _ _ => rfl, fun _ _ => rfl⟩ (fun _ _ => rfl) ?_ ?_ ?_ h.S_lt h.S_src h.below (fun _ _ => ⟨rfl, rfl, rfl⟩)
 ·intro c hc; simp only [St.setB]; split <;> simp [hc]
 ·intro c k hc
  simp only [St.setB] at hc
  split at hc
  ·rename_i e; subst e; cases hc
   obtain ⟨β, arr, el, g1, g2, g3, g4⟩ := h.blk c _ hb
   refine .inr ⟨⟨β, arr, el, g1, g2, by simpa using g3, fun j u hj => ?_⟩, fun x hx => ?_⟩
   ·rw [List.getElem?_map] at hj
    cases hx : cells[j]? with
    | none => rw [hx] at hj; cases hj
    | some c0 => rw [hx] at hj; cases hj; exact (g4 j c0 hx).nrm
   ·obtain ⟨u, hu, hxu⟩ := AU.1 hx
    obtain ⟨u0, h0, rfl⟩ := List.mem_map.1 hu
    have := h.liveB c _ hb x (AU.2 ⟨u0, h0, hC hxu⟩)
    simp only [St.setB]; split
    ·rfl
    ·exact this
  ·exact .inl ⟨hc, fun _ _ _ => rfl⟩
 ·intro c k β hc hr hβ
  simp only [St.setB] at hc
  split at hc
  ·rename_i e; subst e; exact h.at_ok _ _ β hb rfl hβ
  ·exact h.at_ok c k β hc hr hβ
 ·intro c c' k k' β hc hc' hr hr' hβ hβ'
  simp only [St.setB] at hc hc'
  split at hc <;> split at hc'
  ·rename_i e e'; rw [e, e']
  ·rename_i e e'; subst e; exact h.at_inj _ c' _ k' β hb hc' rfl hr' hβ hβ'
  ·rename_i e e'; subst e'; exact h.at_inj c _ k _ β hc hb hr rfl hβ hβ'
  ·exact h.at_inj c c' k k' β hc hc' hr hr' hβ hβ'
end
end Go.Lift
namespace Go.Lift
open Option renaming bind_some → oS
open List renaming mem_of_getElem? → lM
open List renaming getD_eq_getElem?_getD → lD
open Go.RowKit
variable {P : Program} {X : G7} {ops : Array Oper}
def T.flat : T → Bool
 | .sl _ => false
 | _ => true
def C.flat : C → Bool
 | .pure t => t.flat
 | .own _ => true
 | .any => true
 | _ => false
def E.flat : E → Bool
 | .one c => c.flat
 | .agg cs => cs.all C.flat
def D.flat : D → Bool
 | .e x => x.flat
 | .tup xs => xs.all E.flat
def PF (rv : List (Nat × List (List T))) : Prop := ∀ x, x ∈ rv → ∀ row, row ∈ x.2 → row.all T.flat = true
theorem GC : PF [] := fun x h => by cases h
theorem PR {α : Type} {e : Nat} {enc : α → List T} {xs : List α} {rv : List (Nat × List (List T))} (h : ∀ x, (enc x).all T.flat = true) (hr : PF rv) : PF ((e, xs.map enc) :: rv) := by
 intro x hx row hrow
 rcases List.mem_cons.1 hx with e | e
 ·subst e
  obtain ⟨y, _, rfl⟩ := List.mem_map.1 hrow
  exact h y
 ·exact hr x e row hrow
theorem C1.flat {w w' : World} {S S' : Nat → Prop} {v : Value} {t : T} (h : C1 w S v t) (hf : t.flat = true) : C1 w' S' v t := by
 cases h with
 | val v h => exact .val v h
 | nil0 a => exact .nil0 a
 | nil a c => cases hf
 | sl => cases hf
theorem Ed.flat {w w' : World} {G G' : Gh} {v : Value} {c : C} (h : Ed P w G v c) (hf : c.flat = true) (hh : ∀ b, G'.hd b = G.hd b) : Ed P w' G' v c := by
 cases c with
 | pure t => exact C1.flat h hf
 | own b => exact ⟨by rw [hh]; exact h.1, h.2⟩
 | any => exact h
 | _ => cases hf
theorem Il.flat {w w' : World} {G G' : Gh} {v : Value} {x : E} (h : Il P w G v x) (hf : x.flat = true) (hh : ∀ b, G'.hd b = G.hd b) : Il P w' G' v x := by
 cases x with
 | one c => exact Ed.flat h hf hh
 | agg cs =>
  obtain ⟨vs, e, hs, h⟩ := h
  exact ⟨vs, e, hs, fun j c hj => Ed.flat (h j c hj) (List.all_eq_true.1 hf c (lM hj)) hh⟩
theorem F9.flat {w w' : World} {G G' : Gh} {v : Value} {d : D} (h : F9 P w G v d) (hf : d.flat = true) (hh : ∀ b, G'.hd b = G.hd b) : F9 P w' G' v d := by
 cases d with
 | e x => exact Il.flat h hf hh
 | tup xs =>
  obtain ⟨vs, e, hs, h⟩ := h
  exact ⟨vs, e, hs, fun j c hj => Il.flat (h j c hj) (List.all_eq_true.1 hf c (lM hj)) hh⟩
def lent : List (Nat × Bg) → Nat → Option (List (List T))
 | [], _ => none
 | (k, .vec _ rows) :: bs, b => if k = b then some rows else lent bs b
 | (k, .dvec _ _ rows) :: bs, b => if k = b then some rows else lent bs b
 | _ :: bs, b => lent bs b
def C.lend (bs : List (Nat × Bg)) : C → C
 | .own b => match lent bs b with
  | some rows => .pure (.sl rows)
  | none => .own b
 | .view b e lo len => match lent bs b with
  | some rows => if lo = 0 ∧ len ≤ rows.length then .pure (.sl (rows.take len)) else .view b e lo len
  | none => .view b e lo len
 | c => c
def E.lend (bs : List (Nat × Bg)) : E → E
 | .one c => .one (c.lend bs)
 | .agg cs => .agg (cs.map (C.lend bs))
def D.lend (bs : List (Nat × Bg)) : D → D
 | .e x => .e (x.lend bs)
 | .tup xs => .tup (xs.map (E.lend bs))
theorem F4 {bx : Nat → Option Bg} : ∀ {bs : List (Nat × Bg)} {b : Nat} {rows : List (List T)}, FX bx bs → lent bs b = some rows → (∃ e, bx b = some (.vec e rows)) ∨ ∃ e cols, bx b = some (.dvec e cols rows)
 | (k, .vec e rows0) :: bs, b, rows, h, hl => by
  simp only [lent] at hl
  split at hl
  ·rename_i hk; cases hl; subst hk; exact .inl ⟨e, h.1⟩
  ·exact F4 h.2 hl
 | (k, .dvec e cols rows0) :: bs, b, rows, h, hl => by
  simp only [lent] at hl
  split at hl
  ·rename_i hk; cases hl; subst hk; exact .inr ⟨e, cols, h.1⟩
  ·exact F4 h.2 hl
 | (_, .box _) :: _, _, _, h, hl => F4 h.2 hl
 | (_, .mp _) :: _, _, _, h, hl => F4 h.2 hl
 | (_, .pvec _ _ _ _) :: _, _, _, h, hl => F4 h.2 hl
 | (_, .hol _ _ _ _ _ _) :: _, _, _, h, hl => F4 h.2 hl
 | (_, .gone) :: _, _, _, h, hl => F4 h.2 hl
theorem C1.part {w : World} {S : Nat → Prop} {a p : Option Addr} {n cap len : Nat} {rows : List (List T)} (h : C1 w S (.slice a n cap) (.sl rows)) (hl : len ≤ rows.length) (hp : 0 < cap → p = a.map fun q => q.add 0) : C1 w S (.slice p len cap) (.sl (rows.take len)) := by
 by_cases hz : len = 0
 ·subst hz; rw [List.take_zero]; exact .nil _ _
 ·cases h with
  | nil => simp at hl; omega
  | sl β off cap e arr el fz rows h1 h2 h3 h4 h5 h6 =>
   have hlen : (rows.take len).length = len := by simp; omega
   have hp := hp (by omega)
   have hp : p = some ⟨β, off, none⟩ := by rw [hp]; simp [Addr.add]
   subst hp
   have := C1.sl (w := w) (S := S) β off cap e arr el fz (rows.take len) h1 h2 (by omega) (by rw [hlen]; exact Nat.le_trans (Nat.add_le_add_left (Nat.mul_le_mul_right e hl) _) h4)
    (fun i row hi => by have := AF hi; rw [hlen] at this; rw [List.getElem?_take_of_lt this] at hi; exact h5 i row hi)
    (fun i row j t hi hj => by have := AF hi; rw [hlen] at this; rw [List.getElem?_take_of_lt this] at hi; exact h6 i row j t hi hj)
   rwa [hlen] at this
theorem Sa {w : World} {G G' : Gh} {bs : List (Nat × Bg)} {v : Value} {c : C} (h : Ed P w G v c) (hG : G.ext G' (fun _ => True)) (hrow : ∀ b rows, lent bs b = some rows → C1 w G'.S (G.hd b) (.sl rows)) : Ed P w G' v (c.lend bs) := by
 cases c with
 | own b =>
  simp only [C.lend]
  split
  ·rename_i rows hx
   have : v = G.hd b := h.1
   subst this
   exact hrow b rows hx
  ·exact ⟨by rw [hG.hd b trivial]; exact h.1, h.2⟩
 | view b e lo len =>
  simp only [C.lend]
  split
  ·rename_i rows hx
   split
   ·rename_i hc
    obtain ⟨a, n, cap, p, h1, h2, rfl, h4⟩ := h
    have h0 := hc.1
    subst h0
    have := hrow b rows hx
    rw [h1] at this
    rw [Nat.sub_zero]
    exact this.part hc.2 (fun h => by rw [h4 h, Nat.zero_mul])
   ·exact Ed.mono (c := .view b e lo len) h hG (fun _ _ => rfl) (fun _ _ => trivial)
  ·exact Ed.mono (c := .view b e lo len) h hG (fun _ _ => rfl) (fun _ _ => trivial)
 | _ => exact Ed.mono h hG (fun _ _ => rfl) (fun _ _ => trivial)
theorem Ry {w : World} {G G' : Gh} {bs : List (Nat × Bg)} {v : Value} {x : E} (h : Il P w G v x) (hG : G.ext G' (fun _ => True)) (hrow : ∀ b rows, lent bs b = some rows → C1 w G'.S (G.hd b) (.sl rows)) : Il P w G' v (x.lend bs) := by
 cases x with
 | one c => exact Sa h hG hrow
 | agg cs =>
  obtain ⟨vs, e, hs, h⟩ := h
  refine ⟨vs, e, by simp [hs], fun j c hj => ?_⟩
  rw [List.getElem?_map] at hj
  cases hx : cs[j]? with
  | none => rw [hx] at hj; cases hj
  | some c0 => rw [hx] at hj; cases hj; exact Sa (h j c0 hx) hG hrow
theorem Vi {w : World} {G G' : Gh} {bs : List (Nat × Bg)} {v : Value} {d : D} (h : F9 P w G v d) (hG : G.ext G' (fun _ => True)) (hrow : ∀ b rows, lent bs b = some rows → C1 w G'.S (G.hd b) (.sl rows)) : F9 P w G' v (d.lend bs) := by
 cases d with
 | e x => exact Ry h hG hrow
 | tup xs =>
  obtain ⟨vs, e, hs, h⟩ := h
  refine ⟨vs, e, by simp [hs], fun j c hj => ?_⟩
  rw [List.getElem?_map] at hj
  cases hx : xs[j]? with
  | none => rw [hx] at hj; cases hj
  | some c0 => rw [hx] at hj; cases hj; exact Ry (h j c0 hx) hG hrow
section run
variable {dr : Bool} {Q : St → Prop} {r i : Nat} {st : St} {log : List (Nat × Cc)} {o : Oper} {gs : List (Operand × D)}
theorem S3 {f s : Nat} {xs : List Operand} {ds0 ds : List D} {rv : List (Nat × List (List T))} {res : D} {ts : Array TypeId} (ns : List Nat) (bs : List (Nat × Bg)) (hc : As P f ds rv res) (hat : At st.env ops i X.n (.call ⟨.value (.func f), xs.toArray, ts⟩) s gs)
  (hf : AD P f = true) (hl : xs.length = ds0.length) (hx : EF st.env (F8 xs ds0)) (hbs : FX st.bx bs) (hds : ds0.map (fun d => (d.lend bs).nrm) = ds) (hpub : ds.all Rq = true) (hns : ns.length = rv.length) (hndl : JZ ns) (hnew : KS st.bx ns) (hfl : res.flat = true) (hfv : PF rv) (hres : res.names.all (fun b => decide (b < rv.length)) = true)
  (next : A6 P X ops dr Q r (i + 1) (Cc.upd ⟨gs ++ F8 xs ds0, bs, some s, some (res.ren (nm ns)), IR ns rv, ns⟩ st) ((i, ⟨gs ++ F8 xs ds0, bs, some s, some (res.ren (nm ns)), IR ns rv, ns⟩) :: log)) : A6 P X ops dr Q (r + 1) i st log := by
 obtain ⟨o, ho, hop, hd, hn, hg, hgp⟩ := hat.out
 have hnd := hndl.1
 subst hds
 refine A6.step next ⟨Al.2 ⟨hgp, hx⟩, hbs, hnew⟩ ?_
 intro st a w K Q' hs hpre hK
 obtain ⟨G, hs⟩ := hs
 have hx := (Al.1 hpre.r).2
 have hw := hs.wanted hg (Al.1 hpre.r).1
 have hnew := hpre.n
 have hbs := hpre.b
 have hnew' : ∀ c, c ∈ ns → st.bx c = none := by
  have : ∀ {l : List Nat}, KS st.bx l → ∀ c, c ∈ l → st.bx c = none := by
   intro l
   induction l with
   | nil => intro _ c hc; cases hc
   | cons b l ih =>
    intro h c hc
    rcases List.mem_cons.1 hc with e | e
    ·subst e; exact h.1
    ·exact ih h.2 c e
  exact this hnew
 unfold wpOp
 rw [ho]
 simp only [hw, if_true]
 refine .inl ?_
 unfold Oper.wp
 have hrun : (execOp a.eval o).run P w = .ok (.enter f (xs.toArray.map a.eval)) w := by
  simp only [execOp, hop]
  exact HC hf rfl
 rw [hrun]
 show Calls P f (xs.toArray.map a.eval) w _
 let SL : Nat → Prop := fun β => G.S β ∨ ∃ c k, st.bx c = some k ∧ k.real = true ∧ G.has c β
 have hSL : ∀ β, SL β → β < w.heap.size := by
  rintro β (h | ⟨c, k, h1, hr, h2⟩)
  ·exact hs.S_lt β h
  ·exact (hs.at_ok c k β h1 hr h2).2.1
 have hlrow : ∀ b rows, lent bs b = some rows → C1 w SL (G.hd b) (.sl rows) := by
  intro b rows hb
  rcases F4 hbs hb with ⟨e, hb⟩ | ⟨e, cols, hb⟩
  ·rcases hs.blk b _ hb with ⟨a0, h1, h2, _⟩ | ⟨β, cap, arr, el, h0, h1, h2, h3, h4, h5, h6⟩
   ·rw [h1, h2]; exact .nil _ _
   ·rw [h1]
    exact .sl β 0 cap e arr el (0, 0) rows (.inr ⟨b, _, hb, rfl, .inl h0⟩) h2 h3 (by rw [h4, Nat.zero_add]; exact Nat.mul_le_mul_right e h3) h5 (fun i row j t hi hj => by rw [Nat.zero_add]; exact (h6 i row j t hi hj).mono (fun _ _ => rfl) (fun β h => .inl h))
  ·rcases hs.blk b _ hb with ⟨a0, h1, h2, _⟩ | ⟨β, cap, arr, el, Rf, h0, h1, h2, h3, h4, h5, h6, h7, h8, h9⟩
   ·rw [h1, h2]; exact .nil _ _
   ·rw [h1]
    exact .sl β 0 cap e arr el (0, 0) rows (.inr ⟨b, _, hb, rfl, .inl h0⟩) h2 h3 (by rw [h4, Nat.zero_add]; exact Nat.mul_le_mul_right e h3) h5 (fun i row j t hi hj => by rw [Nat.zero_add]; exact (h6 i row j t hi hj).toT (fun β h => .inl h) (fun γ hγ => .inr ⟨b, _, hb, rfl, .inr (h7 i j γ hγ)⟩))
 refine (hc w SL (xs.toArray.map a.eval) hSL (hs.gok.mono (fun _ _ => rfl) (fun _ h => .inl h)) (by simpa using hl) ?_).mono ?_
 ·intro j d hj
  obtain ⟨d0, hj0, rfl⟩ : ∃ d0, ds0[j]? = some d0 ∧ (d0.lend bs).nrm = d := by
   rw [List.getElem?_map] at hj
   cases hx0 : ds0[j]? with
   | none => rw [hx0] at hj; cases hj
   | some d0 => rw [hx0] at hj; cases hj; exact ⟨d0, rfl, rfl⟩
  have hlt := AF hj0
  have hxj : xs[j]? = some (xs[j]'(by omega)) := by simp [show j < xs.length from by omega]
  have hop' := GU hl hx j _ d0 hxj hj0
  have hcell : Au (xs.toArray.map a.eval) j = a.eval (xs[j]'(by omega)) := by simp [Au, show j < xs.length from by omega]
  rw [hcell]
  refine (F9.nrm (Vi (G' := { G with S := SL }) (hs.opd hop') ⟨fun β h => .inl h, fun _ _ => rfl, fun _ _ => rfl, fun _ _ => rfl⟩ hlrow)).closed ?_ (fun _ h => h)
  have := List.all_eq_true.1 hpub _ (lM hj)
  simpa [Rq] using this
 ·rintro e w' ⟨v, G', rfl, hbel, hS1, hS2, hres', hvec, hvat, hvinj⟩
  show K (a.put o.dst v) w'
  rw [hd]
  -- the ghost of the caller
  let G2 : Gh := { S := fun β => G.S β ∨ (w.heap.size ≤ β ∧ G'.S β), loc := fun c => if c ∈ ns then G'.loc (ns.idxOf c) else G.loc c, hd := fun c => if c ∈ ns then G'.hd (ns.idxOf c) else G.hd c, more := fun c => if c ∈ ns then G'.more (ns.idxOf c) else G.more c }
  have hidx : ∀ k, k < ns.length → ns.idxOf (nm ns k) = k := by
   intro k hk
   have hm := Dg hk
   have h1 : ns.idxOf (nm ns k) < ns.length := List.idxOf_lt_length_of_mem hm
   refine KP hnd h1 hk ?_
   have h2 := List.getElem_idxOf h1
   show ns.getD (ns.idxOf (nm ns k)) 0 = nm ns k
   rw [lD, List.getElem?_eq_getElem h1, Option.getD_some, h2]
  have hloc : ∀ b, b < ns.length → G2.loc (nm ns b) = G'.loc b := fun b hb => by simp only [G2]; rw [if_pos (Dg hb), hidx b hb]
  have hhd : ∀ b, b < ns.length → G2.hd (nm ns b) = G'.hd b := fun b hb => by simp only [G2]; rw [if_pos (Dg hb), hidx b hb]
  have hmore : ∀ b, b < ns.length → G2.more (nm ns b) = G'.more b := fun b hb => by simp only [G2]; rw [if_pos (Dg hb), hidx b hb]
  let G3 : Gh := { S := G2.S, loc := G'.loc, hd := G'.hd, more := G'.more }
  have hvia3 : G3.via G2 (nm ns) (fun b => b < ns.length) := ⟨fun β h => h, hloc, hhd, hmore⟩
  have hhas : ∀ b β, b < ns.length → (G2.has (nm ns b) β ↔ G'.has b β) := fun b β hb => hvia3.has (G := G3) hb
  have hext : G.ext G2 (fun b => (st.bx b).isSome = true) := by
   have : ∀ b, (st.bx b).isSome = true → b ∉ ns := fun b hb hm => by rw [hnew' b hm] at hb; cases hb
   exact ⟨fun β h => .inl h, fun b hb => by simp only [G2]; rw [if_neg (this b hb)], fun b hb => by simp only [G2]; rw [if_neg (this b hb)], fun b hb => by simp only [G2]; rw [if_neg (this b hb)]⟩
  have hwS : ∀ β, G.S β → w'.heap[β]? = w.heap[β]? := fun β hβ => hbel.block β (hs.S_lt β hβ)
  have hsz := hbel.size
  have hle := hs.below.size
  have hS3 : ∀ β, G2.S β → G.S β ∨ (w.heap.size ≤ β ∧ β < w'.heap.size) := fun β h => by
   rcases h with h | ⟨h0, h⟩
   ·exact .inl h
   ·rcases hS2 β h with h1 | h1
    ·have := hSL β h1; omega
    ·exact .inr h1
  have hvg := fun c => Kn (bx := st.bx) (ns := ns) (rv := rv) (c := c) hns hnd
  have hblk : ∀ c k, A8 st.bx (IR ns rv) c = some k → (c ∉ ns ∧ st.bx c = some k) ∨ (∃ m x, m < ns.length ∧ nm ns m = c ∧ rv[m]? = some x ∧ k = .vec x.1 x.2) := by
   intro c k hc
   by_cases hm : c ∈ ns
   ·obtain ⟨m, hm1, hm2⟩ := I0 hm
    have hrx : rv[m]? = some (rv[m]'(by omega)) := by simp [show m < rv.length from by omega]
    have := (hvg c).2 m _ hrx
    rw [hm2, hc] at this
    exact .inr ⟨m, _, hm1, hm2, hrx, by simpa using this⟩
   ·rw [(hvg c).1 hm] at hc; exact .inl ⟨hm, hc⟩
  have key : CZ P X G2 ⟨st.env, A8 st.bx (IR ns rv)⟩ a w' := by
   refine hs.frame ?_ hext hwS ?_ ?_ ?_ ?_ ?_ (hs.below.trans (.of (hbel.mono hle))) (fun b hb => by
    have : b ∉ ns := fun hm => by rw [hndl.2 b hm] at hb; cases hb
    simp only [G2]; rw [if_neg this, if_neg this, if_neg this]; exact ⟨rfl, rfl, rfl⟩)
   ·intro c hc
    have hm : c ∉ ns := fun hm => by rw [hnew' c hm] at hc; cases hc
    rw [(hvg c).1 hm]; exact hc
   ·intro c k hc
    rcases hblk c k hc with ⟨_, h1⟩ | ⟨m, x, h1, h2, h3, h4⟩
    ·exact .inl ⟨h1, fun β hr hβ => hbel.block β (hs.at_ok c k β h1 hr hβ).2.1⟩
    ·subst h4
     refine .inr ⟨?_, fun c hc => by cases hc⟩
     rw [← h2]
     have hv3 : EP P w' G3 m (.vec x.1 x.2) := by
      rcases hvec m x h3 with ⟨a0, g1, g2, g3⟩ | ⟨β, cap, arr, el, g0, g1, g2, g3, g4, g5, g6⟩
      ·exact .inl ⟨a0, g1, g2, g3⟩
      ·exact .inr ⟨β, cap, arr, el, g0, g1, g2, g3, g4, g5, fun i row j t hi hj => (g6 i row j t hi hj).flat (List.all_eq_true.1 (hfv x (lM h3) row (lM hi)) t (lM hj))⟩
     exact hv3.ren hvia3 h1 (fun c hc => by cases hc)
   ·intro c k β hc hr hβ
    rcases hblk c k hc with ⟨h0, h1⟩ | ⟨m, x, h1, h2, h3, h4⟩
    ·have hβ := (hext.has (by rw [h1]; rfl)).1 hβ
     have := hs.at_ok c k β h1 hr hβ
     refine ⟨this.1, by omega, fun h => ?_⟩
     rcases hS3 β h with h | h
     ·exact this.2.2 h
     ·omega
    ·rw [← h2, hhas m _ h1] at hβ
     have := hvat m β (by omega) hβ
     exact ⟨.new (by omega), this.2.1, fun h => this.2.2 (by
      rcases h with h | h
      ·exact hS1 β (.inl h)
      ·exact h.2)⟩
   ·intro c c' k k' β hc hc' hr hr' hβ hβ'
    rcases hblk c k hc with ⟨h0, h1⟩ | ⟨m, x, h1, h2, h3, h4⟩ <;> rcases hblk c' k' hc' with ⟨h0', h1'⟩ | ⟨m', x', h1', h2', h3', h4'⟩
    ·have hβ := (hext.has (by rw [h1]; rfl)).1 hβ
     have hβ' := (hext.has (by rw [h1']; rfl)).1 hβ'
     exact hs.at_inj c c' k k' β h1 h1' hr hr' hβ hβ'
    ·have hβ := (hext.has (by rw [h1]; rfl)).1 hβ
     rw [← h2', hhas m' _ h1'] at hβ'
     have h5 := hvat m' β (by omega) hβ'
     have h6 := (hs.at_ok c k β h1 hr hβ).2.1
     omega
    ·have hβ' := (hext.has (by rw [h1']; rfl)).1 hβ'
     rw [← h2, hhas m _ h1] at hβ
     have h5 := hvat m β (by omega) hβ
     have h6 := (hs.at_ok c' k' β h1' hr' hβ').2.1
     omega
    ·rw [← h2, hhas m _ h1] at hβ
     rw [← h2', hhas m' _ h1'] at hβ'
     have := hvinj m m' β (by omega) (by omega) hβ hβ'
     rw [← h2, ← h2', this]
   ·intro β h
    rcases hS3 β h with h | h
    ·have := hs.S_lt β h; omega
    ·exact h.2
   ·intro β h
    rcases hS3 β h with h | h
    ·exact hs.S_src β h
    ·exact .inr (by omega)
  have hrn : ∀ b, b ∈ res.names → b < ns.length := fun b hb => by
   have := List.all_eq_true.1 hres b hb
   rw [hns]; simpa using this
  refine hK _ _ ⟨G2, key.put (some s) (some (res.ren (nm ns))) v (by intro t e; cases e; exact hn) ?_⟩
  rintro d ⟨⟩
  refine ⟨((hres'.flat (G' := G3) hfl fun _ => rfl)).ren hvia3 hrn, fun b hb => ?_⟩
  obtain ⟨b0, h1, h2⟩ := HZ hb
  have hrx : rv[b0]? = some (rv[b0]'(by have := hrn b0 h1; omega)) := by simp [show b0 < rv.length from by have := hrn b0 h1; omega]
  show (A8 st.bx (IR ns rv) b).isSome = true
  rw [h2, (hvg b).2 b0 _ hrx]; rfl
abbrev uD : D := .tup []
theorem Wh {w : World} {G : Gh} : F9 P w G undef uD := ⟨#[], rfl, rfl, fun j x h => by simp at h⟩
theorem RY {j t s : Nat} {want : Bool} {d0 : D} (h : UP ops i X.n = some (j, s, t, want)) (hx : st.env t = some d0) (hv : ∀ w G v, F9 P w G v d0 → v ≠ .bool want)
  (next : A6 P X ops dr Q r (i + 1) (Cc.upd ⟨[(.tmp t, d0)], [], some s, some uD, [], []⟩ st) ((i, ⟨[(.tmp t, d0)], [], some s, some uD, [], []⟩) :: log)) : A6 P X ops dr Q (r + 1) i st log := by
 unfold UP at h
 split at h
 ·rename_i o ho
  split at h
  ·rename_i j' want' s' hg hd
   split at h
   ·rename_i t' ht
    split at h
    ·rename_i hb
     cases h
     refine A6.step next ⟨⟨hx, trivial⟩, trivial, trivial⟩ ?_
     intro st a w K Q hs hpre hK
     obtain ⟨G, hs⟩ := hs
     have h2 := hv _ _ _ (hs.env t _ hpre.r.1)
     have hw : Region.wanted o (yielded ops a.tmps) = false := by
      simp only [Region.wanted, hg, yielded, ht]
      simp only [oS, beq_eq_false_iff_ne]
      intro e
      cases hy : a.tmps[t]? with
      | none => rw [hy] at e; cases e
      | some v =>
       have h3 : Au a.tmps t = v := by simp [Au, hy]
       rw [h3] at h2
       rw [hy] at e
       cases v <;> simp at e
       exact h2 (by rw [e])
     unfold wpOp
     rw [ho]
     simp only [hw, Bool.false_eq_true, if_false]
     rw [hd]
     exact hK _ _ ⟨G, hs.put (some s) (some uD) undef (by intro t e; cases e; exact PS hb) (by rintro d ⟨⟩; exact ⟨Wh, fun b hb => by cases hb⟩)⟩
    ·cases h
   ·cases h
  ·cases h
 ·cases h
theorem UX {j t s : Nat} {want : Bool} (h : UP ops i X.n = some (j, s, t, want)) (hx : st.env t = some (bD (!want)))
  (next : A6 P X ops dr Q r (i + 1) (Cc.upd ⟨[(.tmp t, bD (!want))], [], some s, some uD, [], []⟩ st) ((i, ⟨[(.tmp t, bD (!want))], [], some s, some uD, [], []⟩) :: log)) : A6 P X ops dr Q (r + 1) i st log :=
 RY h hx (fun w G v hv => by
  have h1 : C1 w G.S v (.val (.bool (!want))) := hv
  cases h1; cases want <;> simp) next
theorem UJ {j t s : Nat} {want : Bool} (h : UP ops i X.n = some (j, s, t, want)) (hx : st.env t = some uD)
  (next : A6 P X ops dr Q r (i + 1) (Cc.upd ⟨[(.tmp t, uD)], [], some s, some uD, [], []⟩ st) ((i, ⟨[(.tmp t, uD)], [], some s, some uD, [], []⟩) :: log)) : A6 P X ops dr Q (r + 1) i st log :=
 RY h hx (fun w G v hv => by obtain ⟨vs, e, _⟩ := hv; rw [e]; simp) next
end run
end Go.Lift
