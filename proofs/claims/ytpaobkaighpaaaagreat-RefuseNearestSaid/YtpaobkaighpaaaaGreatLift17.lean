/- Lemmas for RefuseNearestSaid, which YtpaobkaighpaaaaGreatFinR6 proves. -/
import Derived.WalkKit
import Derived.Orders
import Derived.Below
import Derived.KernelRfl
/- A program logic over the model's code in which values are read as trees: what a state of a function is said to be, and how a world is read. No condition. -/
namespace Go.Lift
open Go.RowKit
inductive T where
 | val (v : Value)
 | nil0
 | sl (rows : List (List T))
def HA : Value → Bool
 | .agg _ => false
 | .tuple _ => false
 | _ => true
def AF (arr : Array Value) (k : Nat) : Value := arr[k]?.getD undef
theorem Ka {arr : Array Value} {k : Nat} (h : k < arr.size) : arr[k]? = some (AF arr k) := by
 simp [AF, h]
inductive EK (w : World) (S : Nat → Prop) : Value → T → Prop where
 | val (v : Value) (h : HA v = true) : EK w S v (.val v)
 | nil0 (a : Option Addr) : EK w S (.slice a 0 0) .nil0
 | nil (a : Option Addr) (cap : Nat) : EK w S (.slice a 0 cap) (.sl [])
 | sl (β off cap e : Nat) (arr : Array Value) (el : TypeId) (fz : Nat × Nat) (rows : List (List T))
   (hS : S β) (hb : w.heap[β]? = some (.cells arr el fz)) (hcap : rows.length ≤ cap) (hsz : off + rows.length * e ≤ arr.size)
   (hrow : ∀ (i : Nat) (row : List T), rows[i]? = some row → row.length = e)
   (hcell : ∀ (i : Nat) (row : List T) (j : Nat) (t : T), rows[i]? = some row → row[j]? = some t → EK w S (AF arr (off + i * e + j)) t) :
   EK w S (.slice (some ⟨β, off, none⟩) rows.length cap) (.sl rows)
theorem EK.mono {w w' : World} {S S' : Nat → Prop} {v : Value} {t : T} (h : EK w S v t)
  (hw : ∀ β, S β → w'.heap[β]? = w.heap[β]?) (hS : ∀ β, S β → S' β) : EK w' S' v t := by
 induction h with
 | val v h => exact .val v h
 | nil0 a => exact .nil0 a
 | nil a cap => exact .nil a cap
 | sl β off cap e arr el fz rows h1 h2 h3 h4 h5 _ ih =>
  exact .sl β off cap e arr el fz rows (hS _ h1) (by rw [hw _ h1]; exact h2) h3 h4 h5 ih
theorem EK.one {w : World} {S : Nat → Prop} {v : Value} {t : T} (h : EK w S v t) : HA v = true := by
 cases h <;> first | assumption | rfl
inductive Ow where
 | s
 | x (e : Nat) (cols : List Ow)
inductive QF (w : World) (S : Nat → Prop) : Ow → (Nat → Prop) → Value → T → Prop where
 | s {R : Nat → Prop} {v : Value} {t : T} (h : EK w S v t) : QF w S .s R v t
 | nil {R : Nat → Prop} (a : Option Addr) (e : Nat) (cols : List Ow) : QF w S (.x e cols) R (.slice a 0 0) (.sl [])
 | sl {R : Nat → Prop} (β cap e : Nat) (cols : List Ow) (arr : Array Value) (el : TypeId) (rows : List (List T)) (Rf : Nat → Nat → Nat → Prop)
   (hb : w.heap[β]? = some (.cells arr el (0, 0))) (hcap : rows.length ≤ cap) (hsz : arr.size = cap * e)
   (hrow : ∀ (i : Nat) (row : List T), rows[i]? = some row → row.length = e)
   (hcell : ∀ (i : Nat) (row : List T) (j : Nat) (t : T), rows[i]? = some row → row[j]? = some t → QF w S (cols.getD j .s) (Rf i j) (AF arr (i * e + j)) t)
   (hβ : R β) (hR : ∀ i j γ, Rf i j γ → R γ) (hn : ∀ i j, ¬ Rf i j β) (hd : ∀ i j i' j' γ, Rf i j γ → Rf i' j' γ → i = i' ∧ j = j') :
   QF w S (.x e cols) R (.slice (some ⟨β, 0, none⟩) rows.length cap) (.sl rows)
theorem QF.mono {w w' : World} {S S' : Nat → Prop} {o : Ow} {R R' : Nat → Prop} {v : Value} {t : T} (h : QF w S o R v t)
  (hw : ∀ β, S β ∨ R β → w'.heap[β]? = w.heap[β]?) (hS : ∀ β, S β → S' β) (hR : ∀ β, R β → R' β) : QF w' S' o R' v t := by
 induction h generalizing R' with
 | s h => exact .s (h.mono (fun β hβ => hw β (.inl hβ)) hS)
 | nil a e cols => exact .nil a e cols
 | sl β cap e cols arr el rows Rf h1 h2 h3 h4 _ h6 h7 h8 h9 ih =>
  exact .sl β cap e cols arr el rows Rf (by rw [hw β (.inr h6)]; exact h1) h2 h3 h4 (fun i row j t hi hj => ih i row j t hi hj (fun γ hγ => hw γ (hγ.imp id (h7 i j γ))) (fun _ h => h)) (hR _ h6) (fun i j γ hγ => hR _ (h7 i j γ hγ)) h8 h9
theorem QF.one {w : World} {S : Nat → Prop} {o : Ow} {R : Nat → Prop} {v : Value} {t : T} (h : QF w S o R v t) : HA v = true := by
 cases h with
 | s h => exact h.one
 | _ => rfl
inductive C where
 | pure (t : T)
 | own (b : Nat)
 | ptr (b k : Nat)
 | eptr (b e i k : Nat)
 | view (b e lo len : Nat)
 | mref (b : Nat)
 | rop (ts : List T)
 | clo (g : List (Bool × List T) → Option T)
 | any
 | nilq (p : Prop)
 | fnc (f : Nat)
inductive E where
 | one (c : C)
 | agg (cs : List C)
inductive D where
 | e (x : E)
 | tup (xs : List E)
inductive B5 where
 | box (cells : List C)
 | vec (e : Nat) (rows : List (List T))
 | mp (es : List (Value × T))
 | dvec (e : Nat) (cols : List Ow) (rows : List (List T))
 | hol (e : Nat) (cols : List Ow) (i k c : Nat) (rows : List (List T))
 | gone
def C.names : C → List Nat
 | .own b => [b]
 | .ptr b _ => [b]
 | .eptr b _ _ _ => [b]
 | .view b _ _ _ => [b]
 | .mref b => [b]
 | _ => []
def EY : List C → List Nat
 | [] => []
 | c :: cs => c.names ++ EY cs
def E.names : E → List Nat
 | .one c => c.names
 | .agg cs => EY cs
def LJ : List E → List Nat
 | [] => []
 | x :: xs => x.names ++ LJ xs
def D.names : D → List Nat
 | .e x => x.names
 | .tup xs => LJ xs
def B5.names : B5 → List Nat
 | .box cs => EY cs
 | .hol _ _ _ _ c _ => [c]
 | _ => []
def B5.real : B5 → Bool
 | .gone => false
 | _ => true
theorem Bq {b : Nat} : ∀ {cs : List C}, b ∈ EY cs ↔ ∃ c, c ∈ cs ∧ b ∈ c.names
 | [] => by simp [EY]
 | c :: cs => by simp [EY, Bq (cs := cs)]
theorem E4 {b : Nat} : ∀ {xs : List E}, b ∈ LJ xs ↔ ∃ x, x ∈ xs ∧ b ∈ x.names
 | [] => by simp [LJ]
 | c :: cs => by simp [LJ, E4 (xs := cs)]
structure Gh where
 S : Nat → Prop
 loc : Nat → Option Nat
 hd : Nat → Value
 more : Nat → Nat → Prop
def Gh.has (G : Gh) (b β : Nat) : Prop := G.loc b = some β ∨ G.more b β
def Uu (w : World) (S : Nat → Prop) (v : Value) : Bool × List T → Prop
 | (false, ts) => ∃ t, ts = [t] ∧ EK w S v t
 | (true, ts) => ∃ vs, v = .agg vs ∧ vs.size = ts.length ∧ ∀ (j : Nat) (t : T), ts[j]? = some t → EK w S (AF vs j) t
def Lg (P : Program) (w : World) (S : Nat → Prop) (v : Value) (g : List (Bool × List T) → Option T) : Prop :=
 ∃ f caps, v = .func (.func f) #[] caps ∧ (∃ fn, P.funcs[f]? = some fn ∧ fn.body.isSome = true ∧ (fn.name == "runtime.NumGoroutine") = false) ∧
  ∀ (w' : World) (S' : Nat → Prop), (∀ β, S β → S' β) → (∀ β, S β → w'.heap[β]? = w.heap[β]?) → (∀ β, S' β → β < w'.heap.size) →
  ∀ (vs : Array Value) (as : List (Bool × List T)) (r : T), vs.size = as.length → (∀ (j : Nat) (x : Bool × List T), as[j]? = some x → Uu w' S' (AF vs j) x) → g as = some r →
   Calls P f (vs ++ caps) w' fun e w'' => ∃ v' S'', e = .returned v' ∧ Below w'.heap.size w' w'' ∧ (∀ β, S' β → S'' β) ∧ (∀ β, S'' β → S' β ∨ (w'.heap.size ≤ β ∧ β < w''.heap.size)) ∧ EK w'' S'' v' r
variable (P : Program)
def FT (w : World) (G : Gh) (v : Value) : C → Prop
 | .pure t => EK w G.S v t
 | .own b => v = G.hd b ∧ ∃ a l c, v = .slice a l c
 | .ptr b k => ∃ β, G.loc b = some β ∧ v = .pointer (some ⟨β, k, none⟩)
 | .eptr b e i k => ∃ β, G.loc b = some β ∧ v = .pointer (some ⟨β, i * e + k, none⟩)
 | .view b e lo len => ∃ a n cap p, G.hd b = .slice a n cap ∧ lo + len ≤ cap ∧ v = .slice p len (cap - lo) ∧ (lo < cap → p = a.map fun q => q.add (lo * e))
 | .mref b => ∃ β, G.loc b = some β ∧ v = .map (some β)
 | .rop ts => ∃ β off arr el fz, v = .pointer (some ⟨β, off, none⟩) ∧ G.S β ∧ w.heap[β]? = some (.cells arr el fz) ∧ off + ts.length ≤ arr.size ∧
   ∀ (j : Nat) (t : T), ts[j]? = some t → EK w G.S (AF arr (off + j)) t
 | .clo g => Lg P w G.S v g
 | .any => HA v = true
 | .nilq p => ∃ b, v = .bool b ∧ (b = true → p)
 | .fnc f => v = .func (.func f) #[] #[]
def Jz (w : World) (G : Gh) (v : Value) : E → Prop
 | .one c => FT P w G v c
 | .agg cs => ∃ vs, v = .agg vs ∧ vs.size = cs.length ∧ ∀ (j : Nat) (c : C), cs[j]? = some c → FT P w G (AF vs j) c
def HH (w : World) (G : Gh) (v : Value) : D → Prop
 | .e x => Jz P w G v x
 | .tup xs => ∃ vs, v = .tuple vs ∧ vs.size = xs.length ∧ ∀ (j : Nat) (x : E), xs[j]? = some x → Jz P w G (AF vs j) x
def Gj (w : World) (G : Gh) (b : Nat) : B5 → Prop
 | .box cells => ∃ β arr el, G.loc b = some β ∧ w.heap[β]? = some (.cells arr el (0, 0)) ∧ arr.size = cells.length ∧ ∀ (j : Nat) (c : C), cells[j]? = some c → FT P w G (AF arr j) c
 | .vec e rows => (∃ a, G.hd b = .slice a 0 0 ∧ rows = [] ∧ G.loc b = none) ∨
   (∃ β cap arr el, G.loc b = some β ∧ G.hd b = .slice (some ⟨β, 0, none⟩) rows.length cap ∧ w.heap[β]? = some (.cells arr el (0, 0)) ∧ rows.length ≤ cap ∧ arr.size = cap * e ∧
    (∀ (i : Nat) (row : List T), rows[i]? = some row → row.length = e) ∧ ∀ (i : Nat) (row : List T) (j : Nat) (t : T), rows[i]? = some row → row[j]? = some t → EK w G.S (AF arr (i * e + j)) t)
 | .mp es => ∃ β arr clock, G.loc b = some β ∧ w.heap[β]? = some (.map arr clock) ∧ arr.size = es.length ∧ ∀ (i : Nat) (x : Value × T), es[i]? = some x → ∃ m : MapEntry, arr[i]? = some m ∧ m.key = x.1 ∧ EK w G.S m.val x.2
 | .dvec e cols rows => (∃ a, G.hd b = .slice a 0 0 ∧ rows = [] ∧ G.loc b = none) ∨
   (∃ β cap arr el, ∃ Rf : Nat → Nat → Nat → Prop, G.loc b = some β ∧ G.hd b = .slice (some ⟨β, 0, none⟩) rows.length cap ∧ w.heap[β]? = some (.cells arr el (0, 0)) ∧ rows.length ≤ cap ∧ arr.size = cap * e ∧
    (∀ (i : Nat) (row : List T), rows[i]? = some row → row.length = e) ∧ (∀ (i : Nat) (row : List T) (j : Nat) (t : T), rows[i]? = some row → row[j]? = some t → QF w G.S (cols.getD j .s) (Rf i j) (AF arr (i * e + j)) t) ∧
    (∀ i j γ, Rf i j γ → G.more b γ) ∧ (∀ i j, ¬ Rf i j β) ∧ ∀ i j i' j' γ, Rf i j γ → Rf i' j' γ → i = i' ∧ j = j')
 | .hol e cols i0 k0 c rows =>
   (∃ β cap arr el, ∃ Rf : Nat → Nat → Nat → Prop, G.loc b = some β ∧ G.hd b = .slice (some ⟨β, 0, none⟩) rows.length cap ∧ w.heap[β]? = some (.cells arr el (0, 0)) ∧ rows.length ≤ cap ∧ arr.size = cap * e ∧
    (∀ (i : Nat) (row : List T), rows[i]? = some row → row.length = e) ∧ (∀ (i : Nat) (row : List T) (j : Nat) (t : T), rows[i]? = some row → row[j]? = some t → ¬ (i = i0 ∧ j = k0) → QF w G.S (cols.getD j .s) (Rf i j) (AF arr (i * e + j)) t) ∧
    (∀ i j γ, Rf i j γ → G.more b γ) ∧ (∀ i j, ¬ Rf i j β) ∧ (∀ i j i' j' γ, Rf i j γ → Rf i' j' γ → i = i' ∧ j = j') ∧ AF arr (i0 * e + k0) = G.hd c ∧ (∃ p n q, G.hd c = .slice p n q))
 | .gone => True
variable {P}
theorem Uu.mono {w w' : World} {S S' : Nat → Prop} {v : Value} {x : Bool × List T} (h : Uu w S v x)
  (hw : ∀ β, S β → w'.heap[β]? = w.heap[β]?) (hS : ∀ β, S β → S' β) : Uu w' S' v x := by
 obtain ⟨b, ts⟩ := x
 cases b
 ·obtain ⟨t, e, h⟩ := h; exact ⟨t, e, h.mono hw hS⟩
 ·obtain ⟨vs, e, hs, h⟩ := h; exact ⟨vs, e, hs, fun j t hj => (h j t hj).mono hw hS⟩
theorem Lg.mono {w w' : World} {S S' : Nat → Prop} {v : Value} {g : List (Bool × List T) → Option T} (h : Lg P w S v g)
  (hw : ∀ β, S β → w'.heap[β]? = w.heap[β]?) (hS : ∀ β, S β → S' β) : Lg P w' S' v g := by
 obtain ⟨f, caps, e, hf, h⟩ := h
 exact ⟨f, caps, e, hf, fun w2 S2 h1 h2 h3 => h w2 S2 (fun β hβ => h1 β (hS β hβ)) (fun β hβ => (h2 β (hS β hβ)).trans (hw β hβ)) h3⟩
structure Gh.ext (G G' : Gh) (p : Nat → Prop) : Prop where
 S : ∀ β, G.S β → G'.S β
 loc : ∀ b, p b → G'.loc b = G.loc b
 hd : ∀ b, p b → G'.hd b = G.hd b
 more : ∀ b, p b → G'.more b = G.more b
theorem Gh.ext.has {G G' : Gh} {p : Nat → Prop} (h : G.ext G' p) {b β : Nat} (hb : p b) : G'.has b β ↔ G.has b β := by
 unfold Gh.has; rw [h.loc b hb, h.more b hb]
theorem FT.mono {w w' : World} {G G' : Gh} {p : Nat → Prop} {v : Value} {c : C} (h : FT P w G v c) (hG : G.ext G' p)
  (hw : ∀ β, G.S β → w'.heap[β]? = w.heap[β]?) (hp : ∀ b, b ∈ c.names → p b) : FT P w' G' v c := by
 cases c with
 | pure t => exact EK.mono h hw hG.S
 | own b => exact ⟨by rw [hG.hd b (hp b (by simp [C.names]))]; exact h.1, h.2⟩
 | ptr b k => obtain ⟨β, h1, h2⟩ := h; exact ⟨β, by rw [hG.loc b (hp b (by simp [C.names]))]; exact h1, h2⟩
 | eptr b e i k => obtain ⟨β, h1, h2⟩ := h; exact ⟨β, by rw [hG.loc b (hp b (by simp [C.names]))]; exact h1, h2⟩
 | view b e lo len => obtain ⟨a, n, cap, p, h1, h2⟩ := h; exact ⟨a, n, cap, p, by rw [hG.hd b (hp b (by simp [C.names]))]; exact h1, h2⟩
 | mref b => obtain ⟨β, h1, h2⟩ := h; exact ⟨β, by rw [hG.loc b (hp b (by simp [C.names]))]; exact h1, h2⟩
 | rop ts =>
  obtain ⟨β, off, arr, el, fz, h1, h2, h3, h4, h5⟩ := h
  exact ⟨β, off, arr, el, fz, h1, hG.S _ h2, by rw [hw _ h2]; exact h3, h4, fun j t hj => (h5 j t hj).mono hw hG.S⟩
 | clo g => exact Lg.mono h hw hG.S
 | any => exact h
 | nilq p => exact h
 | fnc f => exact h
theorem Jz.mono {w w' : World} {G G' : Gh} {p : Nat → Prop} {v : Value} {x : E} (h : Jz P w G v x) (hG : G.ext G' p)
  (hw : ∀ β, G.S β → w'.heap[β]? = w.heap[β]?) (hp : ∀ b, b ∈ x.names → p b) : Jz P w' G' v x := by
 cases x with
 | one c => exact FT.mono h hG hw hp
 | agg cs =>
  obtain ⟨vs, e, hs, h⟩ := h
  exact ⟨vs, e, hs, fun j c hj => (h j c hj).mono hG hw fun b hb => hp b (Bq.2 ⟨c, List.mem_of_getElem? hj, hb⟩)⟩
theorem HH.mono {w w' : World} {G G' : Gh} {p : Nat → Prop} {v : Value} {d : D} (h : HH P w G v d) (hG : G.ext G' p)
  (hw : ∀ β, G.S β → w'.heap[β]? = w.heap[β]?) (hp : ∀ b, b ∈ d.names → p b) : HH P w' G' v d := by
 cases d with
 | e x => exact Jz.mono h hG hw hp
 | tup xs =>
  obtain ⟨vs, e, hs, h⟩ := h
  exact ⟨vs, e, hs, fun j x hj => (h j x hj).mono hG hw fun b hb => hp b (E4.2 ⟨x, List.mem_of_getElem? hj, hb⟩)⟩
theorem FT.one {w : World} {G : Gh} {v : Value} {c : C} (h : FT P w G v c) : HA v = true := by
 cases c with
 | pure t => exact EK.one h
 | own b => obtain ⟨_, a, l, c, rfl⟩ := h; rfl
 | ptr b k => obtain ⟨β, _, rfl⟩ := h; rfl
 | eptr b e i k => obtain ⟨β, _, rfl⟩ := h; rfl
 | view b e lo len => obtain ⟨_, _, _, _, _, _, rfl, _⟩ := h; rfl
 | mref b => obtain ⟨β, _, rfl⟩ := h; rfl
 | rop ts => obtain ⟨β, off, arr, el, fz, rfl, _⟩ := h; rfl
 | clo g => obtain ⟨f, caps, rfl, _⟩ := h; rfl
 | any => exact h
 | nilq p => obtain ⟨b, rfl, _⟩ := h; rfl
 | fnc f => cases h; rfl
theorem Gj.mono {w w' : World} {G G' : Gh} {p : Nat → Prop} {b : Nat} {k : B5} (h : Gj P w G b k) (hG : G.ext G' p) (hb : p b)
  (hw : ∀ β, G.S β → w'.heap[β]? = w.heap[β]?) (hbw : ∀ β, k.real = true → G.has b β → w'.heap[β]? = w.heap[β]?) (hp : ∀ c, c ∈ k.names → p c) : Gj P w' G' b k := by
 cases k with
 | box cells =>
  obtain ⟨β, arr, el, h1, h2, h3, h4⟩ := h
  exact ⟨β, arr, el, by rw [hG.loc b hb]; exact h1, by rw [hbw β rfl (.inl h1)]; exact h2, h3, fun j c hj => (h4 j c hj).mono hG hw fun x hx => hp x (Bq.2 ⟨c, List.mem_of_getElem? hj, hx⟩)⟩
 | vec e rows =>
  rcases h with ⟨a, h1, h2, h3⟩ | ⟨β, cap, arr, el, h0, h1, h2, h3, h4, h5, h6⟩
  ·exact .inl ⟨a, by rw [hG.hd b hb]; exact h1, h2, by rw [hG.loc b hb]; exact h3⟩
  ·exact .inr ⟨β, cap, arr, el, by rw [hG.loc b hb]; exact h0, by rw [hG.hd b hb]; exact h1, by rw [hbw β rfl (.inl h0)]; exact h2, h3, h4, h5, fun i row j t hi hj => (h6 i row j t hi hj).mono hw hG.S⟩
 | mp es =>
  obtain ⟨β, arr, clock, h1, h2, h3, h4⟩ := h
  exact ⟨β, arr, clock, by rw [hG.loc b hb]; exact h1, by rw [hbw β rfl (.inl h1)]; exact h2, h3, fun i x hi => by
   obtain ⟨m, e1, e2, e3⟩ := h4 i x hi
   exact ⟨m, e1, e2, e3.mono hw hG.S⟩⟩
 | dvec e cols rows =>
  rcases h with ⟨a, h1, h2, h3⟩ | ⟨β, cap, arr, el, Rf, h0, h1, h2, h3, h4, h5, h6, h7, h8, h9⟩
  ·exact .inl ⟨a, by rw [hG.hd b hb]; exact h1, h2, by rw [hG.loc b hb]; exact h3⟩
  ·exact .inr ⟨β, cap, arr, el, Rf, by rw [hG.loc b hb]; exact h0, by rw [hG.hd b hb]; exact h1, by rw [hbw β rfl (.inl h0)]; exact h2, h3, h4, h5, fun i row j t hi hj => (h6 i row j t hi hj).mono (fun γ hγ => hγ.elim (hw γ) fun hr => hbw γ rfl (.inr (h7 i j γ hr))) hG.S (fun _ h => h), fun i j γ hγ => by rw [hG.more b hb]; exact h7 i j γ hγ, h8, h9⟩
 | hol e cols i0 k0 c rows =>
  obtain ⟨β, cap, arr, el, Rf, h0, h1, h2, h3, h4, h5, h6, h7, h8, h9, h10, h11⟩ := h
  have hc := hG.hd c (hp c (by simp [B5.names]))
  exact ⟨β, cap, arr, el, Rf, by rw [hG.loc b hb]; exact h0, by rw [hG.hd b hb]; exact h1, by rw [hbw β rfl (.inl h0)]; exact h2, h3, h4, h5, fun i row j t hi hj hne => (h6 i row j t hi hj hne).mono (fun γ hγ => hγ.elim (hw γ) fun hr => hbw γ rfl (.inr (h7 i j γ hr))) hG.S (fun _ h => h), fun i j γ hγ => by rw [hG.more b hb]; exact h7 i j γ hγ, h8, h9, by rw [hc]; exact h10, by rw [hc]; exact h11⟩
 | gone => trivial
structure St where
 env : Nat → Option D
 bx : Nat → Option B5
structure JY where
 w0 : World
 S0 : Nat → Prop
 n : Nat
 GL : Gh
def Cx (b : Nat) : Bool := Nat.ble 90000 b && Nat.ble b 90999
def Gh.lent (G : Gh) (β : Nat) : Prop := ∃ b, Cx b = true ∧ G.has b β
def JY.L (X : JY) : Nat → Prop := X.GL.lent
structure Ea (L : Nat → Prop) (B : Nat) (w w' : World) : Prop where
 os : w'.os = w.os
 tape : w'.tape = w.tape
 output : w'.output = w.output
 size : w.heap.size ≤ w'.heap.size
 block : ∀ k, k < B → ¬ L k → w'.heap[k]? = w.heap[k]?
theorem Ea.refl (L : Nat → Prop) (B : Nat) (w : World) : Ea L B w w := ⟨rfl, rfl, rfl, Nat.le_refl _, fun _ _ _ => rfl⟩
theorem Ea.trans {L : Nat → Prop} {B : Nat} {a b c : World} (h : Ea L B a b) (k : Ea L B b c) : Ea L B a c :=
 ⟨k.os.trans h.os, k.tape.trans h.tape, k.output.trans h.output, Nat.le_trans h.size k.size, fun i hi hl => (k.block i hi hl).trans (h.block i hi hl)⟩
theorem Ea.of {L : Nat → Prop} {B : Nat} {w w' : World} (h : Below B w w') : Ea L B w w' := ⟨h.os, h.tape, h.output, h.size, fun k hk _ => h.block k hk⟩
theorem Ea.to {B : Nat} {w w' : World} (h : Ea (fun _ => False) B w w') : Below B w w' := ⟨h.os, h.tape, h.output, h.size, fun k hk => h.block k hk (fun h => h)⟩
theorem Ea.mono {L : Nat → Prop} {B B' : Nat} {w w' : World} (h : Ea L B w w') (hB : B' ≤ B) : Ea L B' w w' := ⟨h.os, h.tape, h.output, h.size, fun k hk => h.block k (Nat.lt_of_lt_of_le hk hB)⟩
theorem Ea.drew {L : Nat → Prop} {B : Nat} {a w : World} (h : Ea L B a w) : Ea L B a w.drew := ⟨h.os, h.tape, h.output, h.size, h.block⟩
theorem Ea.alloc {L : Nat → Prop} {B : Nat} {a w : World} (h : Ea L B a w) (hB : B ≤ w.heap.size) (o : Obj) : Ea L B a (w.alloc o) :=
 h.trans (.of ((Below.refl B w).alloc hB o))
def P8 (X : JY) (b β : Nat) : Prop := (Cx b = false → X.w0.heap.size ≤ β) ∧ (X.w0.heap.size ≤ β ∨ X.L β)
theorem P8.new {X : JY} {b β : Nat} (h : X.w0.heap.size ≤ β) : P8 X b β := ⟨fun _ => h, .inl h⟩
structure Eg (P : Program) (X : JY) (G : Gh) (st : St) (a : Act) (w : World) : Prop where
 S_lt : ∀ β, G.S β → β < w.heap.size
 S_src : ∀ β, G.S β → X.S0 β ∨ X.w0.heap.size ≤ β
 S_0 : ∀ β, X.S0 β → G.S β
 S0_lt : ∀ β, X.S0 β → β < X.w0.heap.size
 blk : ∀ b k, st.bx b = some k → Gj P w G b k
 at_ok : ∀ b k β, st.bx b = some k → k.real = true → G.has b β → P8 X b β ∧ β < w.heap.size ∧ ¬ G.S β
 at_inj : ∀ b c k l β, st.bx b = some k → st.bx c = some l → k.real = true → l.real = true → G.has b β → G.has c β → b = c
 env : ∀ s d, st.env s = some d → HH P w G (AF a.tmps s) d
 live : ∀ s d, st.env s = some d → ∀ b, b ∈ d.names → (st.bx b).isSome = true
 liveB : ∀ b k, st.bx b = some k → ∀ c, c ∈ k.names → (st.bx c).isSome = true
 tsz : a.tmps.size = X.n
 nlt : X.n ≤ 90000
 lent : ∀ b, Cx b = true → G.loc b = X.GL.loc b ∧ G.hd b = X.GL.hd b ∧ G.more b = X.GL.more b
 defers : a.defers = []
 below : Ea X.L X.w0.heap.size X.w0 w
def OI (P : Program) (X : JY) (st : St) (a : Act) (w : World) : Prop := ∃ G, Eg P X G st a w
def T.of (v : Value) : T := match v with
 | .slice none 0 0 => .nil0
 | v => .val v
def opd (env : Nat → Option D) : Operand → Option D
 | .tmp t => env t
 | .const v => if HA v then some (.e (.one (.pure (.of v)))) else none
 | .func f => some (.e (.one (.fnc f)))
 | _ => none
theorem EK.of {w : World} {S : Nat → Prop} {v : Value} (h : HA v = true) : EK w S v (.of v) := by
 unfold T.of; split
 ·exact .nil0 none
 ·exact .val _ h
theorem Eg.opd {X : JY} {G : Gh} {st : St} {a : Act} {w : World} (h : Eg P X G st a w) {x : Operand} {d : D} (hx : opd st.env x = some d) :
  HH P w G (a.eval x) d := by
 cases x with
 | tmp t => have := h.env t d hx; simpa [AF, Act.eval] using this
 | const v =>
  simp only [Lift.opd] at hx
  split at hx
  ·rename_i hv; cases hx; exact EK.of hv
  ·cases hx
 | global g => cases hx
 | func f => cases hx; rfl
theorem Eg.opd_live {X : JY} {G : Gh} {st : St} {a : Act} {w : World} (h : Eg P X G st a w) {x : Operand} {d : D} (hx : Lift.opd st.env x = some d) :
  ∀ b, b ∈ d.names → (st.bx b).isSome = true := by
 cases x with
 | tmp t => exact h.live t d hx
 | const v =>
  simp only [Lift.opd] at hx
  split at hx
  ·cases hx; intro b hb; simp [D.names, E.names, C.names] at hb
  ·cases hx
 | global g => cases hx
 | func f => cases hx; intro b hb; simp [D.names, E.names, C.names] at hb
end Go.Lift

/- How a state of the tree logic is carried on: by a new value in a slot, by a new block, by a store into a block of the call's own, by a call. No condition. -/
namespace Go.Lift
open Go.RowKit
variable {P : Program} {X : JY}
def St.put (st : St) (dst : Option Nat) (d : Option D) : St :=
 match dst with
 | some s => { st with env := fun t => if t = s then d else st.env t }
 | none => st
def St.setB (st : St) (b : Nat) (k : B5) : St := { st with bx := fun c => if c = b then some k else st.bx c }
theorem M0 {arr : Array Value} {i j : Nat} {v : Value} (h : i < arr.size) : AF (arr.setIfInBounds i v) j = if j = i then v else AF arr j := by
 unfold AF
 rw [Array.getElem?_setIfInBounds]
 by_cases e : i = j
 ·subst e; simp [h]
 ·rw [if_neg e, if_neg (Ne.symm e)]
theorem Eg.put {G : Gh} {st : St} {a : Act} {w : World} (h : Eg P X G st a w) (dst : Option Nat) (d : Option D) (v : Value)
  (hn : ∀ s, dst = some s → s < X.n) (hd : ∀ d', d = some d' → HH P w G v d' ∧ ∀ b, b ∈ d'.names → (st.bx b).isSome = true) : Eg P X G (st.put dst d) (a.put dst v) w := by
 cases dst with
 | none => exact h
 | some s =>
  have hs : s < a.tmps.size := by rw [h.tsz]; exact hn s rfl
  refine { h with env := ?_, live := ?_, tsz := ?_, defers := h.defers, blk := h.blk, at_ok := h.at_ok, at_inj := h.at_inj, liveB := h.liveB, nlt := h.nlt, lent := h.lent }
  ·intro s' d' he
   simp only [St.put] at he
   simp only [Act.put, M0 hs]
   split at he
   ·rename_i e; rw [if_pos e]; exact (hd d' he).1
   ·rename_i e; rw [if_neg e]; exact h.env s' d' he
  ·intro s' d' he
   simp only [St.put] at he
   split at he
   ·exact (hd d' he).2
   ·exact h.live s' d' he
  ·simp [Act.put, h.tsz]
theorem Eg.frame {G G' : Gh} {st : St} {bx' : Nat → Option B5} {a : Act} {w w' : World} (h : Eg P X G st a w)
  (hlive : ∀ b, (st.bx b).isSome = true → (bx' b).isSome = true)
  (hG : G.ext G' (fun b => (st.bx b).isSome = true))
  (hw : ∀ β, G.S β → w'.heap[β]? = w.heap[β]?)
  (hb : ∀ b k, bx' b = some k → (st.bx b = some k ∧ ∀ β, k.real = true → G.has b β → w'.heap[β]? = w.heap[β]?) ∨ (Gj P w' G' b k ∧ ∀ c, c ∈ k.names → (bx' c).isSome = true))
  (hat : ∀ b k β, bx' b = some k → k.real = true → G'.has b β → P8 X b β ∧ β < w'.heap.size ∧ ¬ G'.S β)
  (hinj : ∀ b c k l β, bx' b = some k → bx' c = some l → k.real = true → l.real = true → G'.has b β → G'.has c β → b = c)
  (hS1 : ∀ β, G'.S β → β < w'.heap.size) (hS2 : ∀ β, G'.S β → X.S0 β ∨ X.w0.heap.size ≤ β)
  (hbel : Ea X.L X.w0.heap.size X.w0 w') (hL : ∀ b, Cx b = true → G'.loc b = G.loc b ∧ G'.hd b = G.hd b ∧ G'.more b = G.more b) : Eg P X G' { st with bx := bx' } a w' where
 S_lt := hS1
 S_src := hS2
 S_0 := fun β hβ => hG.S β (h.S_0 β hβ)
 S0_lt := h.S0_lt
 blk := fun b k hk => by
  rcases hb b k hk with ⟨h1, h2⟩ | ⟨h1, _⟩
  ·exact (h.blk b k h1).mono hG (by simp [h1]) hw h2 fun c hc => h.liveB b k h1 c hc
  ·exact h1
 at_ok := hat
 at_inj := hinj
 env := fun s d hs => (h.env s d hs).mono hG hw (h.live s d hs)
 live := fun s d hs b hb' => hlive b (h.live s d hs b hb')
 liveB := fun b k hk c hc => by
  rcases hb b k hk with ⟨h1, _⟩ | ⟨_, h2⟩
  ·exact hlive c (h.liveB b k h1 c hc)
  ·exact h2 c hc
 tsz := h.tsz
 nlt := h.nlt
 lent := fun b hb => by
  obtain ⟨h1, h2, h3⟩ := hL b hb
  rw [h1, h2, h3]; exact h.lent b hb
 defers := h.defers
 below := hbel
theorem ER (w : World) (o : Obj) (k : Nat) : (w.alloc o).heap[k]? = if k = w.heap.size then some o else w.heap[k]? := by
 show (w.heap.push o)[k]? = _
 rw [Array.getElem?_push]
theorem Eg.grow {G : Gh} {st : St} {a : Act} {w w' : World} (h : Eg P X G st a w) (hb : Below w.heap.size w w') : Eg P X G st a w' := by
 have hw : ∀ β, G.S β → w'.heap[β]? = w.heap[β]? := fun β hβ => hb.block β (h.S_lt β hβ)
 have hle := h.below.size
 exact h.frame (bx' := st.bx) (fun _ h => h) ⟨fun _ h => h, fun _ _ => rfl, fun _ _ => rfl, fun _ _ => rfl⟩ hw
  (fun b k hk => .inl ⟨hk, fun β hr hβ => hb.block β (h.at_ok b k β hk hr hβ).2.1⟩)
  (fun b k β hk hr hβ => by have h9 := hb.size; have := h.at_ok b k β hk hr hβ; exact ⟨this.1, by omega, this.2.2⟩)
  h.at_inj (fun β hβ => by have := h.S_lt β hβ; have := hb.size; omega) h.S_src (h.below.trans (.of (hb.mono hle))) (fun _ _ => ⟨rfl, rfl, rfl⟩)
def Gh.set (G : Gh) (b : Nat) (l : Option Nat) (v : Value) : Gh :=
 { G with loc := fun c => if c = b then l else G.loc c, hd := fun c => if c = b then v else G.hd c, more := fun c => if c = b then fun _ => False else G.more c }
theorem Gh.set_has {G : Gh} {b c β : Nat} {l : Option Nat} {v : Value} : (G.set b l v).has c β ↔ if c = b then l = some β else G.has c β := by
 unfold Gh.has Gh.set
 by_cases e : c = b <;> simp [e]
theorem Gh.set_lent {G : Gh} {b : Nat} (l : Option Nat) (v : Value) (hb : Cx b = false) : ∀ c, Cx c = true → (G.set b l v).loc c = G.loc c ∧ (G.set b l v).hd c = G.hd c ∧ (G.set b l v).more c = G.more c := by
 intro c hc
 have : c ≠ b := fun e => by rw [e, hb] at hc; cases hc
 simp [Gh.set, this]
theorem Jt {b n : Nat} (h : b < n) (hn : n ≤ 90000) : Cx b = false := by
 have h1 : Nat.ble 90000 b = false := by
  cases h2 : Nat.ble 90000 b
  ·rfl
  ·have := Nat.le_of_ble_eq_true h2; omega
 unfold Cx; rw [h1]; rfl
theorem Eg.nl {G : Gh} {st : St} {a : Act} {w : World} (h : Eg P X G st a w) {s : Nat} (hs : s < X.n) : Cx s = false := Jt hs h.nlt
theorem Gh.set_ext (G : Gh) (b : Nat) (l : Option Nat) (v : Value) {p : Nat → Prop} (hp : ¬ p b) : G.ext (G.set b l v) p where
 S := fun _ h => h
 loc := fun c hc => by have : c ≠ b := fun e => hp (e ▸ hc); simp [Gh.set, this]
 hd := fun c hc => by have : c ≠ b := fun e => hp (e ▸ hc); simp [Gh.set, this]
 more := fun c hc => by have : c ≠ b := fun e => hp (e ▸ hc); simp [Gh.set, this]
theorem Eg.newB {G : Gh} {st : St} {a : Act} {w : World} (h : Eg P X G st a w) (o : Obj) (b : Nat) (k : B5) (v : Value) (hbl : Cx b = false) (hnew : st.bx b = none)
  (hk : Gj P (w.alloc o) (G.set b (some w.heap.size) v) b k) (hn : ∀ c, c ∈ k.names → (st.bx c).isSome = true) :
  Eg P X (G.set b (some w.heap.size) v) (st.setB b k) a (w.alloc o) := by
 have hw : ∀ β, β < w.heap.size → (w.alloc o).heap[β]? = w.heap[β]? := fun β hβ => by rw [ER, if_neg (by omega)]
 have hsz : (w.alloc o).heap.size = w.heap.size + 1 := by show (w.heap.push o).size = _; simp
 have hle := h.below.size
 refine h.frame (bx' := (st.setB b k).bx) ?_ (Gh.set_ext _ _ _ _ (by simp [hnew])) (fun β hβ => hw β (h.S_lt β hβ)) ?_ ?_ ?_ ?_ h.S_src (h.below.alloc hle o) (Gh.set_lent _ _ hbl)
 ·intro c hc; simp only [St.setB]; split <;> simp [hc]
 ·intro c l hc
  simp only [St.setB] at hc
  split at hc
  ·rename_i e; subst e; cases hc
   exact .inr ⟨hk, fun c hc => by simp only [St.setB]; split <;> simp [hn c hc]⟩
  ·exact .inl ⟨hc, fun β hr hβ => hw β (h.at_ok c l β hc hr hβ).2.1⟩
 ·intro c l β hc hr hβ
  simp only [St.setB] at hc
  rw [Gh.set_has] at hβ
  split at hc
  ·rename_i e; rw [if_pos e] at hβ; cases hβ
   exact ⟨.new hle, by omega, fun hs => Nat.lt_irrefl _ (h.S_lt _ hs)⟩
  ·rename_i e; rw [if_neg e] at hβ
   have := h.at_ok c l β hc hr hβ
   exact ⟨this.1, by omega, this.2.2⟩
 ·intro c c' l l' β hc hc' hr hr' hβ hβ'
  simp only [St.setB] at hc hc'
  rw [Gh.set_has] at hβ hβ'
  split at hc <;> split at hc'
  ·rename_i e e'; rw [e, e']
  ·rename_i e e'; rw [if_pos e] at hβ; rw [if_neg e'] at hβ'
   cases hβ
   have := (h.at_ok c' l' _ hc' hr' hβ').2.1
   omega
  ·rename_i e e'; rw [if_neg e] at hβ; rw [if_pos e'] at hβ'
   cases hβ'
   have := (h.at_ok c l _ hc hr hβ).2.1
   omega
  ·rename_i e e'; rw [if_neg e] at hβ; rw [if_neg e'] at hβ'
   exact h.at_inj c c' l l' β hc hc' hr hr' hβ hβ'
 ·intro β hβ; have := h.S_lt β hβ; omega
def Hm (w : World) (β : Nat) (o : Obj) : World := { w with heap := w.heap.setIfInBounds β o }
theorem E0 (w : World) (β : Nat) (o : Obj) (k : Nat) : (Hm w β o).heap[k]? = if k = β ∧ β < w.heap.size then some o else w.heap[k]? := by
 show (w.heap.setIfInBounds β o)[k]? = _
 rw [Array.getElem?_setIfInBounds]
 by_cases e : β = k
 ·subst e
  by_cases h : β < w.heap.size
  ·simp [h]
  ·simp [h]
 ·rw [if_neg e, if_neg (fun x => e x.1.symm)]
theorem M6 {L : Nat → Prop} {B : Nat} {a w : World} (h : Ea L B a w) {β : Nat} (hβ : B ≤ β ∨ L β) (o : Obj) : Ea L B a (Hm w β o) :=
 h.trans ⟨rfl, rfl, rfl, by simp [Hm], fun k hk hl => by
  rw [E0, if_neg]
  rintro ⟨rfl, _⟩
  rcases hβ with h | h
  ·omega
  ·exact hl h⟩
theorem Eg.setB {G : Gh} {st : St} {a : Act} {w : World} (h : Eg P X G st a w) {b β : Nat} {k0 k : B5} {o : Obj} (hb0 : st.bx b = some k0) (hr0 : k0.real = true) (hr : k.real = true) (hβ : G.has b β)
  (hk : Gj P (Hm w β o) G b k) (hn : ∀ c, c ∈ k.names → (st.bx c).isSome = true) :
  Eg P X G (st.setB b k) a (Hm w β o) := by
 have hat := h.at_ok b k0 β hb0 hr0 hβ
 have hw : ∀ γ, γ ≠ β → (Hm w β o).heap[γ]? = w.heap[γ]? := fun γ hγ => by rw [E0, if_neg (fun x => hγ x.1)]
 have hsz : (Hm w β o).heap.size = w.heap.size := by simp [Hm]
 refine h.frame (bx' := (st.setB b k).bx) ?_ ⟨fun _ h => h, fun _ _ => rfl, fun _ _ => rfl, fun _ _ => rfl⟩ (fun γ hγ => hw γ (fun e => hat.2.2 (e ▸ hγ))) ?_ ?_ ?_ ?_ h.S_src (M6 h.below hat.1.2 o) (fun _ _ => ⟨rfl, rfl, rfl⟩)
 ·intro c hc; simp only [St.setB]; split <;> simp [hc]
 ·intro c l hc
  simp only [St.setB] at hc
  split at hc
  ·rename_i e; subst e; cases hc
   exact .inr ⟨hk, fun c hc => by simp only [St.setB]; split <;> simp [hn c hc]⟩
  ·rename_i e
   exact .inl ⟨hc, fun γ hrl hγ => hw γ (fun e' => e (h.at_inj c b l k0 β hc hb0 hrl hr0 (e' ▸ hγ) hβ))⟩
 ·intro c l γ hc hrl hγ
  simp only [St.setB] at hc
  rw [hsz]
  split at hc
  ·rename_i e; subst e; exact h.at_ok _ k0 γ hb0 hr0 hγ
  ·exact h.at_ok c l γ hc hrl hγ
 ·intro c c' l l' γ hc hc' hr1 hr2 hγ hγ'
  simp only [St.setB] at hc hc'
  split at hc <;> split at hc'
  ·rename_i e e'; rw [e, e']
  ·rename_i e e'; exact h.at_inj c c' k0 l' γ (e ▸ hb0) hc' hr0 hr2 hγ hγ'
  ·rename_i e e'; exact h.at_inj c c' l k0 γ hc (e' ▸ hb0) hr1 hr0 hγ hγ'
  ·exact h.at_inj c c' l l' γ hc hc' hr1 hr2 hγ hγ'
 ·intro γ hγ; rw [hsz]; exact h.S_lt γ hγ
def Hf (arr : Array Value) (off : Nat) : List Value → Array Value
 | [] => arr
 | v :: vs => Hf (arr.setIfInBounds off v) (off + 1) vs
theorem HT : ∀ (vs : List Value) (arr : Array Value) (off : Nat), (Hf arr off vs).size = arr.size
 | [], _, _ => rfl
 | v :: vs, arr, off => by rw [Hf, HT vs]; simp
theorem Gq : ∀ (vs : List Value) (arr : Array Value) (off j : Nat), off + vs.length ≤ arr.size →
  AF (Hf arr off vs) j = if off ≤ j ∧ j < off + vs.length then vs[j - off]?.getD undef else AF arr j
 | [], arr, off, j, _ => by rw [Hf, if_neg (by simp only [List.length_nil]; omega)]
 | v :: vs, arr, off, j, h => by
  simp only [List.length_cons] at h
  rw [Hf, Gq vs _ _ _ (by simp; omega), M0 (by omega)]
  simp only [List.length_cons]
  by_cases e : j = off
  ·subst e
   rw [if_neg (by omega), if_pos rfl, if_pos (by omega), Nat.sub_self]; rfl
  ·rw [if_neg e]
   by_cases e2 : off ≤ j ∧ j < off + (vs.length + 1)
   ·rw [if_pos (by omega), if_pos e2, show j - off = (j - (off + 1)) + 1 from by omega]; simp
   ·rw [if_neg (by omega), if_neg e2]
theorem Qn (w : World) (β : Nat) (o o' : Obj) : Hm (Hm w β o) β o' = Hm w β o' := by
 simp [Hm]
theorem Qt {w : World} {β : Nat} {o : Obj} (h : w.heap[β]? = some o) : Hm w β o = w := by
 unfold Hm
 congr
 have hlt : β < w.heap.size := by
  rcases Nat.lt_or_ge β w.heap.size with h' | h'
  ·exact h'
  ·simp [Array.getElem?_eq_none h'] at h
 apply Array.ext_getElem?
 intro i
 rw [Array.getElem?_setIfInBounds]
 by_cases e : β = i
 ·subst e; rw [if_pos rfl, if_pos hlt, h]
 ·rw [if_neg e]
theorem Qw {w : World} {β k : Nat} {arr : Array Value} {el : TypeId} {v : Value} (h : w.heap[β]? = some (.cells arr el (0, 0))) (hk : k < arr.size) (h1 : HA v = true) :
  (store ⟨β, k, none⟩ v).run P w = .ok () (Hm w β (.cells (arr.setIfInBounds k v) el (0, 0))) := by
 have hlt : β < w.heap.size := by
  rcases Nat.lt_or_ge β w.heap.size with h' | h'
  ·exact h'
  ·simp [Array.getElem?_eq_none h'] at h
 have hc : w.cell? ⟨β, k, none⟩ = some arr[k] := by simp [World.cell?, h, hk]
 have hf : w.frozen? ⟨β, k, none⟩ = false := by simp [World.frozen?, h]
 have hs : w.setCell ⟨β, k, none⟩ v = Hm w β (.cells (arr.setIfInBounds k v) el (0, 0)) := by
  unfold World.setCell Hm
  congr 1
  apply Array.ext_getElem?
  intro i
  rw [Array.getElem?_modify, Array.getElem?_setIfInBounds]
  by_cases e : β = i
  ·subst e; rw [if_pos rfl, if_pos rfl, if_pos hlt, h]; rfl
  ·simp [e]
 unfold store
 cases v <;> first | (simp [HA] at h1; done) | simp [Sem.run, hc, hf, hs]
theorem Addr.add_mk (β k i : Nat) : (⟨β, k, none⟩ : Addr).add i = ⟨β, k + i, none⟩ := by
 unfold Addr.add; split
 ·rename_i h; subst h; simp
 ·rfl
theorem As {α β : Type} {x : Sem α} {f : α → Sem β} {w w1 : World} {a : α} {r : Result β} (h : x.run P w = .ok a w1) (h2 : (f a).run P w1 = r) : (x >>= f).run P w = r := by
 rw [Sem.run_bind, h]; exact h2
theorem I2 {w : World} {β off : Nat} {arr : Array Value} {el : TypeId} {fz : Nat × Nat} (h : w.heap[β]? = some (.cells arr el fz)) :
  ∀ (n i : Nat) (acc : Array Value), off + i + n ≤ arr.size → (loadCellsFrom ⟨β, off, none⟩ i n acc).run P w = .ok (acc ++ ((List.range n).map fun j => AF arr (off + i + j)).toArray) w
 | 0, i, acc, _ => by simp [loadCellsFrom]
 | n + 1, i, acc, hn => by
  have hc : w.cell? ⟨β, off + i, none⟩ = some (AF arr (off + i)) := by
   simp only [World.cell?, h]
   rw [Ka (by omega)]; rfl
  unfold loadCellsFrom
  refine As (a := AF arr (off + i)) (w1 := w) (by rw [Addr.add_mk]; simp [load, Sem.run, hc]) ?_
  rw [I2 h n (i + 1) _ (by omega)]
  congr 1
  rw [List.range_succ_eq_map]
  simp only [List.map_cons, List.map_map, Array.push_eq_append, Array.append_assoc]
  congr 1
  simp [Function.comp_def, Nat.add_assoc, Nat.add_comm 1]
theorem H4 {w : World} {β off n : Nat} {arr : Array Value} {el : TypeId} {fz : Nat × Nat} (h : w.heap[β]? = some (.cells arr el fz)) (hn : off + n ≤ arr.size) :
  (loadCells ⟨β, off, none⟩ n).run P w = .ok ((List.range n).map fun j => AF arr (off + j)).toArray w := by
 unfold loadCells
 rw [I2 h n 0 #[] (by omega)]
 simp
theorem NH {w : World} {β off : Nat} {arr : Array Value} {el : TypeId} {fz : Nat × Nat} (h : w.heap[β]? = some (.cells arr el fz)) (hn : off < arr.size) :
  (load ⟨β, off, none⟩).run P w = .ok (AF arr off) w := by
 have hc : w.cell? ⟨β, off, none⟩ = some (AF arr off) := by
  simp only [World.cell?, h]
  rw [Ka hn]; rfl
 simp [load, Sem.run, hc]
theorem Gr {β : Nat} {el : TypeId} : ∀ (vs : List Value) (w : World) (off i : Nat) (arr : Array Value), w.heap[β]? = some (.cells arr el (0, 0)) → off + i + vs.length ≤ arr.size →
  (∀ v, v ∈ vs → HA v = true) → (storeCells ⟨β, off, none⟩ vs i).run P w = .ok () (Hm w β (.cells (Hf arr (off + i) vs) el (0, 0)))
 | [], w, off, i, arr, h, _, _ => by simp [storeCells, Hf, Qt h]
 | v :: vs, w, off, i, arr, h, hn, h1 => by
  simp only [List.length_cons] at hn
  unfold storeCells
  rw [Addr.add_mk]
  refine As (Qw h (by omega) (h1 v (by simp))) ?_
  have hlt : β < w.heap.size := by
   rcases Nat.lt_or_ge β w.heap.size with h' | h'
   ·exact h'
   ·simp [Array.getElem?_eq_none h'] at h
  rw [Gr vs _ off (i + 1) _ (by rw [E0, if_pos ⟨rfl, hlt⟩]) (by simp; omega) (fun v hv => h1 v (by simp [hv])), Qn]
  rfl
end Go.Lift

/- What an operation reads and writes, and that a region may be carried out in every order that its edges allow. No condition. -/
namespace Go.Lift
open Go.RowKit
structure DK where
 rs : List (Operand × D)
 rb : List (Nat × B5)
 dst : Option Nat
 out : Option D
 wb : List (Nat × B5)
 nb : List Nat
def GC (env : Nat → Option D) : List (Operand × D) → Prop
 | [] => True
 | p :: ps => opd env p.1 = some p.2 ∧ GC env ps
def Ic (bx : Nat → Option B5) : List (Nat × B5) → Prop
 | [] => True
 | p :: ps => bx p.1 = some p.2 ∧ Ic bx ps
def M8 (bx : Nat → Option B5) : List Nat → Prop
 | [] => True
 | b :: bs => bx b = none ∧ M8 bx bs
structure DK.pre (l : DK) (st : St) : Prop where
 r : GC st.env l.rs
 b : Ic st.bx l.rb
 n : M8 st.bx l.nb
def BW (bx : Nat → Option B5) : List (Nat × B5) → (Nat → Option B5)
 | [] => bx
 | p :: ps => fun c => if c = p.1 then some p.2 else BW bx ps c
def DK.upd (l : DK) (st : St) : St := St.put ⟨st.env, BW st.bx l.wb⟩ l.dst l.out
def KN : List (Operand × D) → List Nat
 | [] => []
 | (.tmp t, _) :: ps => t :: KN ps
 | _ :: ps => KN ps
def DK.sw (l : DK) : List Nat := l.dst.toList
def DK.sr (l : DK) : List Nat := KN l.rs
def DK.bw (l : DK) : List Nat := l.wb.map (·.1)
def DK.br (l : DK) : List Nat := l.rb.map (·.1) ++ l.nb
def K2 (a b : List Nat) : Bool := a.any fun x => b.contains x
def DK.apart (l m : DK) : Bool :=
 !K2 l.sw m.sr && !K2 l.sw m.sw && !K2 m.sw l.sr && !K2 l.bw m.br && !K2 l.bw m.bw && !K2 m.bw l.br
theorem Hi {a b : List Nat} (h : K2 a b = false) {x : Nat} (ha : x ∈ a) : x ∉ b := by
 intro hb
 have : K2 a b = true := by unfold K2; exact List.any_eq_true.2 ⟨x, ha, by simpa using hb⟩
 rw [h] at this; cases this
structure KZ (l m : DK) : Prop where
 h1 : ∀ x, x ∈ l.sw → x ∉ m.sr
 h2 : ∀ x, x ∈ l.sw → x ∉ m.sw
 h3 : ∀ x, x ∈ m.sw → x ∉ l.sr
 h4 : ∀ x, x ∈ l.bw → x ∉ m.br
 h5 : ∀ x, x ∈ l.bw → x ∉ m.bw
 h6 : ∀ x, x ∈ m.bw → x ∉ l.br
theorem DK.apart_spec {l m : DK} (h : l.apart m = true) : KZ l m := by
 simp only [DK.apart, Bool.and_eq_true, Bool.not_eq_true'] at h
 obtain ⟨⟨⟨⟨⟨a, b⟩, c⟩, d⟩, e⟩, f⟩ := h
 exact ⟨fun _ => Hi a, fun _ => Hi b, fun _ => Hi c, fun _ => Hi d, fun _ => Hi e, fun _ => Hi f⟩
theorem Qo {e e' : Nat → Option D} {x : Operand} (h : ∀ t, x = .tmp t → e t = e' t) : opd e x = opd e' x := by
 cases x <;> first | rfl | exact h _ rfl
theorem KV {e e' : Nat → Option D} : ∀ {rs : List (Operand × D)}, (∀ t, t ∈ KN rs → e t = e' t) → GC e rs → GC e' rs
 | [], _, _ => trivial
 | (x, d) :: ps, h, hp => by
  refine ⟨?_, KV (fun t ht => h t (by cases x <;> simp [KN, ht])) hp.2⟩
  rw [← hp.1]
  exact (Qo fun t ht => h t (by subst ht; simp [KN])).symm
theorem KX {e e' : Nat → Option B5} : ∀ {rs : List (Nat × B5)}, (∀ t, t ∈ rs.map (·.1) → e t = e' t) → Ic e rs → Ic e' rs
 | [], _, _ => trivial
 | (x, d) :: ps, h, hp => ⟨by rw [← hp.1]; exact (h x (by simp)).symm, KX (fun t ht => h t (by simp at ht ⊢; exact .inr ht)) hp.2⟩
theorem KW {e e' : Nat → Option B5} : ∀ {rs : List Nat}, (∀ t, t ∈ rs → e t = e' t) → M8 e rs → M8 e' rs
 | [], _, _ => trivial
 | x :: ps, h, hp => ⟨by rw [← hp.1]; exact (h x (by simp)).symm, KW (fun t ht => h t (by simp [ht])) hp.2⟩
theorem HU {bx : Nat → Option B5} {c : Nat} : ∀ {wb : List (Nat × B5)}, c ∉ wb.map (·.1) → BW bx wb c = bx c
 | [], _ => rfl
 | p :: ps, h => by
  simp only [List.map_cons, List.mem_cons, not_or] at h
  simp only [BW]
  rw [if_neg h.1, HU h.2]
theorem MN {bx bx' : Nat → Option B5} {c : Nat} : ∀ {wb : List (Nat × B5)}, c ∈ wb.map (·.1) → BW bx wb c = BW bx' wb c
 | [], h => by simp at h
 | p :: ps, h => by
  simp only [BW]
  by_cases e : c = p.1
  ·rw [if_pos e, if_pos e]
  ·rw [if_neg e, if_neg e]
   exact MN (by simpa [e] using h)
theorem Hk {l : DK} {st : St} {t : Nat} (h : t ∉ l.sw) : (l.upd st).env t = st.env t := by
 unfold DK.upd St.put
 cases hd : l.dst with
 | none => rfl
 | some s =>
  have : t ≠ s := fun e => h (by simp [DK.sw, hd, e])
  simp [this]
theorem M4 {l : DK} {st : St} : (l.upd st).bx = BW st.bx l.wb := by
 unfold DK.upd St.put
 cases l.dst <;> rfl
theorem Qc {l m : DK} {st : St} (h : KZ l m) : m.pre (l.upd st) ↔ m.pre st := by
 have e : ∀ t, t ∈ KN m.rs → (l.upd st).env t = st.env t := fun t ht => Hk fun hs => h.h1 t hs ht
 have b : ∀ t, t ∈ m.br → (l.upd st).bx t = st.bx t := fun t ht => by rw [M4]; exact HU fun hs => h.h4 t hs ht
 constructor
 ·intro hp
  exact ⟨KV e hp.r, KX (fun t ht => b t (by simp [DK.br]; exact .inl (by simpa using ht))) hp.b, KW (fun t ht => b t (by simp [DK.br, ht])) hp.n⟩
 ·intro hp
  exact ⟨KV (fun t ht => (e t ht).symm) hp.r, KX (fun t ht => (b t (by simp [DK.br]; exact .inl (by simpa using ht))).symm) hp.b, KW (fun t ht => (b t (by simp [DK.br, ht])).symm) hp.n⟩
theorem St.ext {s t : St} (h1 : ∀ i, s.env i = t.env i) (h2 : ∀ i, s.bx i = t.bx i) : s = t := by
 cases s; cases t
 congr
 ·exact funext h1
 ·exact funext h2
theorem MH {l : DK} {st st' : St} {t : Nat} (h : t ∈ l.sw) : (l.upd st).env t = (l.upd st').env t := by
 unfold DK.upd St.put
 cases hd : l.dst with
 | none => simp [DK.sw, hd] at h
 | some s =>
  have : t = s := by simpa [DK.sw, hd] using h
  simp [this]
theorem RI {l m : DK} {st : St} (h : KZ l m) : l.upd (m.upd st) = m.upd (l.upd st) := by
 apply St.ext
 ·intro t
  by_cases hl : t ∈ l.sw
  ·rw [MH (st' := st) hl, Hk (h.h2 t hl)]
  ·rw [Hk hl]
   by_cases hm : t ∈ m.sw
   ·exact MH hm
   ·rw [Hk hm, Hk hm, Hk hl]
 ·intro t
  rw [M4, M4, M4, M4]
  by_cases hl : t ∈ l.bw
  ·rw [MN (bx' := st.bx) hl, HU (wb := m.wb) (h.h5 t hl)]
  ·rw [HU (wb := l.wb) hl]
   by_cases hm : t ∈ m.bw
   ·exact MN hm
   ·rw [HU hm, HU hm, HU hl]
theorem KZ.symm {l m : DK} (h : KZ l m) : KZ m l :=
 ⟨fun x hx => h.h3 x hx, fun x hx hy => h.h2 x hy hx, fun x hx => h.h1 x hx, fun x hx => h.h6 x hx, fun x hx hy => h.h5 x hy hx, fun x hx => h.h4 x hx⟩
variable {P : Program} {X : JY} {ops : Array Oper}
def LR (P : Program) (X : JY) (ops : Array Oper) (i : Nat) (l : DK) : Prop :=
 ∀ (st : St) (a : Act) (w : World) (K : Act → World → Prop) (Q : Exit → Act → World → Prop), OI P X st a w → l.pre st → (∀ a' w', OI P X (l.upd st) a' w' → K a' w') → wpOp P ops Q i K a w
def JT : List (Nat × DK) → St → St → Prop
 | [], st, st' => st' = st
 | p :: ps, st, st' => p.2.pre st ∧ JT ps (p.2.upd st) st'
theorem JT.swap {p q : Nat × DK} {ps : List (Nat × DK)} {st st' : St} (h : KZ p.2 q.2) (hp : JT (p :: q :: ps) st st') : JT (q :: p :: ps) st st' := by
 obtain ⟨h1, h2, h3⟩ := hp
 exact ⟨(Qc h).1 h2, (Qc h.symm).2 h1, by rw [RI h]; exact h3⟩
theorem JT.front {q : Nat × DK} : ∀ {ps qs : List (Nat × DK)} {st st' : St}, (∀ p, p ∈ ps → KZ p.2 q.2) → JT (ps ++ q :: qs) st st' → JT (q :: (ps ++ qs)) st st'
 | [], _, _, _, _, h => h
 | p :: ps, qs, st, st', ha, h => by
  have : JT (q :: (ps ++ qs)) (p.2.upd st) st' := JT.front (fun x hx => ha x (by simp [hx])) h.2
  exact JT.swap (ha p (by simp)) ⟨h.1, this⟩
def Q6 (acc : List Nat) (o : Oper) : Nat :=
 o.after.toList.foldl (fun s e => if Region.binds .any e then s ||| 2 ^ e.on ||| acc.getD e.on 0 else s) 0
def NL : List Oper → List Nat → List Nat
 | [], acc => acc
 | o :: os, acc => NL os (acc ++ [Q6 acc o])
def Uy (ops : Array Oper) (L : Nat → Prop) : Prop := ∀ j o, ops[j]? = some o → L j → ∀ e, e ∈ o.after → Region.binds .any e = true → L e.on
theorem KH (L : Nat → Prop) (acc : List Nat) (i : Nat) : ∀ (es : List Edge) (s : Nat), (s.testBit i = true → L i) →
  (∀ e, e ∈ es → Region.binds .any e = true → L e.on ∧ ((acc.getD e.on 0).testBit i = true → L i)) →
  (es.foldl (fun s e => if Region.binds .any e then s ||| 2 ^ e.on ||| acc.getD e.on 0 else s) s).testBit i = true → L i
 | [], s, h, _, ht => h ht
 | e :: es, s, h, he, ht => by
  simp only [List.foldl_cons] at ht
  refine KH L acc i es _ ?_ (fun e' h' => he e' (by simp [h'])) ht
  split
  ·rename_i hb
   intro hx
   have h3 := he e (by simp) hb
   simp only [Nat.testBit_or, Bool.or_eq_true, Nat.testBit_two_pow, decide_eq_true_eq] at hx
   rcases hx with (hx | hx) | hx
   ·exact h hx
   ·exact hx ▸ h3.1
   ·exact h3.2 hx
  ·exact h
theorem M5 (ops : Array Oper) (L : Nat → Prop) (hL : Uy ops L) : ∀ (os : List Oper) (acc : List Nat), (∀ j, os[j]? = ops[acc.length + j]?) →
  (∀ j, j < acc.length → ∀ o, ops[j]? = some o → (∀ e, e ∈ o.after → Region.binds .any e = true → L e.on) → ∀ i, (acc.getD j 0).testBit i = true → L i) →
  ∀ j o, ops[j]? = some o → (∀ e, e ∈ o.after → Region.binds .any e = true → L e.on) → ∀ i, ((NL os acc).getD j 0).testBit i = true → L i
 | [], acc, hos, hacc => by
  intro j o ho he i hi
  rcases Nat.lt_or_ge j acc.length with h | h
  ·exact hacc j h o ho he i hi
  ·have := hos (j - acc.length)
   rw [show acc.length + (j - acc.length) = j from by omega, ho] at this
   simp at this
 | o :: os, acc, hos, hacc => by
  refine M5 ops L hL os (acc ++ [Q6 acc o]) (fun j => by have := hos (j + 1); simp at this; rw [this]; congr 1; simp; omega) ?_
  intro j hj o' ho' he' i hi
  simp only [List.length_append, List.length_singleton] at hj
  rcases Nat.lt_or_ge j acc.length with h | h
  ·exact hacc j h o' ho' he' i (by rw [List.getD_eq_getElem?_getD, List.getElem?_append_left h, ← List.getD_eq_getElem?_getD] at hi; exact hi)
  ·have hj' : j = acc.length := by omega
   subst hj'
   have h0 := hos 0
   simp only [List.getElem?_cons_zero, Nat.add_zero, ho'] at h0
   obtain rfl : o = o' := Option.some.inj h0
   rw [List.getD_eq_getElem?_getD, List.getElem?_append_right (Nat.le_refl _)] at hi
   simp only [Nat.sub_self, List.getElem?_cons_zero, Option.getD_some] at hi
   refine KH L acc i _ 0 (by simp) ?_ hi
   intro e hem hb
   have hem' : e ∈ o.after := by simpa using hem
   refine ⟨he' e hem' hb, fun ht => ?_⟩
   rcases Nat.lt_or_ge e.on acc.length with h5 | h5
   ·have hlt : e.on < ops.size := by
     have : ops[acc.length]? ≠ none := by rw [ho']; simp
     have : acc.length < ops.size := by
      rcases Nat.lt_or_ge acc.length ops.size with h6 | h6
      ·exact h6
      ·exact absurd (Array.getElem?_eq_none h6) this
     omega
    exact hacc e.on h5 ops[e.on] (by simp [hlt]) (fun e2 h2 hb2 => hL e.on ops[e.on] (by simp [hlt]) (he' e hem' hb) e2 h2 hb2) i ht
   ·rw [List.getD_eq_getElem?_getD, List.getElem?_eq_none h5] at ht; simp at ht
def JB (ops : Array Oper) : Bool := ops.toList.zipIdx.all fun p => p.1.after.toList.all fun e => !Region.binds .any e || decide (e.on < p.2)
theorem Nc {ops : Array Oper} (h : JB ops = true) {j : Nat} {o : Oper} (ho : ops[j]? = some o) {e : Edge} (he : e ∈ o.after) (hb : Region.binds .any e = true) : e.on < j := by
 unfold JB at h
 rw [List.all_eq_true] at h
 have hm : (o, j) ∈ ops.toList.zipIdx := by
  rw [List.mem_iff_getElem?]
  exact ⟨j, by simp [List.getElem?_zipIdx]; exact ho⟩
 have := List.all_eq_true.1 (h _ hm) e (by simpa using he)
 simpa [hb] using this
def Hr (ms : List Nat) : List (Nat × DK) → Bool
 | [] => true
 | p :: ps => (ps.all fun q => (ms.getD q.1 0).testBit p.1 || p.2.apart q.2) && Hr ms ps
theorem Kp {ms : List Nat} : ∀ {ps qs : List (Nat × DK)}, qs.Sublist ps → Hr ms ps = true → Hr ms qs = true
 | _, _, .slnil, _ => rfl
 | _, _, .cons _ h, h2 => by simp only [Hr, Bool.and_eq_true] at h2; exact Kp h h2.2
 | _, _, .cons_cons p h, h2 => by
  simp only [Hr, Bool.and_eq_true] at h2 ⊢
  refine ⟨?_, Kp h h2.2⟩
  rw [List.all_eq_true] at h2 ⊢
  exact fun x hx => h2.1 x (h.subset hx)
theorem K6 {ms : List Nat} : ∀ {ps qs : List (Nat × DK)} {q : Nat × DK}, Hr ms (ps ++ q :: qs) = true → ∀ p, p ∈ ps → (ms.getD q.1 0).testBit p.1 = true ∨ p.2.apart q.2 = true
 | p :: ps, qs, q, h, x, hx => by
  simp only [List.cons_append, Hr, Bool.and_eq_true] at h
  rcases List.mem_cons.1 hx with e | e
  ·subst e
   have := List.all_eq_true.1 h.1 q (by simp)
   simpa using this
  ·exact K6 h.2 x e
theorem Lw {listed : Array Bool} {i : Nat} : i ∈ Region.ready .any ops listed ↔
  i < ops.size ∧ listed.getD i true = false ∧ ∃ o, ops[i]? = some o ∧ ∀ e, e ∈ o.after → Region.binds .any e = true → listed.getD e.on false = true := by
 unfold Region.ready
 simp only [List.mem_filter, List.mem_range, Bool.and_eq_true, Bool.not_eq_true']
 constructor
 ·rintro ⟨h1, h2, h3⟩
  have ho : ops[i]? = some ops[i] := by simp [h1]
  refine ⟨h1, h2, ops[i], ho, ?_⟩
  rw [ho] at h3
  simp only [Option.map_some, Option.getD_some] at h3
  intro e he hb
  have h4 := (Array.all_eq_true_iff_forall_mem.1 h3) e he
  simpa [hb] using h4
 ·rintro ⟨h1, h2, o, ho, h3⟩
  refine ⟨h1, h2, ?_⟩
  rw [ho]
  simp only [Option.map_some, Option.getD_some]
  exact Array.all_eq_true_iff_forall_mem.2 fun e he => by
   by_cases hb : Region.binds .any e = true
   ·simp [h3 e he hb]
   ·simp [hb]
theorem OG {α : Type} {x : α} : ∀ {l : List α}, x ∈ l → ∃ a b, l = a ++ x :: b
 | y :: l, h => by
  rcases List.mem_cons.1 h with e | e
  ·exact ⟨[], l, by rw [e]; rfl⟩
  ·obtain ⟨a, b, hab⟩ := OG e
   exact ⟨y :: a, b, by rw [hab]; rfl⟩
theorem Md (hback : JB ops = true) {stn : St} {Q : Exit → Act → World → Prop} (hQ : ∀ a w, OI P X stn a w → Q .normal a w) :
  ∀ (t : List (Nat × DK)) (listed : Array Bool) (st : St) (a : Act) (w : World), listed.size = ops.size →
   (∀ p, p ∈ t → LR P X ops p.1 p.2) → (∀ i, i < ops.size → (listed.getD i true = false ↔ ∃ l, (i, l) ∈ t)) → (∀ p, p ∈ t → p.1 < ops.size) → (t.map (·.1)).Pairwise (· < ·) →
   Uy ops (fun i => listed.getD i false = true) →
   Hr (NL ops.toList []) t = true → JT t st stn → OI P X st a w → wpAny P .any ops Q t.length listed a w
 | [], listed, st, a, w, hsz, _, hun, _, _, _, _, hp, hs => by
  have hr : Region.ready .any ops listed = [] := by
   apply List.eq_nil_iff_forall_not_mem.2
   intro i hi
   obtain ⟨h1, h2, _⟩ := Lw.1 hi
   obtain ⟨l, hl⟩ := (hun i h1).1 h2
   cases hl
  refine ⟨hr, ?_⟩
  have hp' : stn = st := hp
  subst hp'
  exact hQ _ _ hs
 | p :: t, listed, st, a, w, hsz, hLR, hun, hlt, hsort, hshut, hok, hp, hs => by
  have flip : ∀ i, i < ops.size → listed.getD i true = true → listed.getD i false = true := fun i hi h => by
   rw [Array.getD_eq_getD_getElem?] at h ⊢
   have : i < listed.size := by omega
   simp [this] at h ⊢; exact h
  constructor
  ·intro hr
   exfalso
   have hp1 : p.1 < ops.size := hlt p (by simp)
   have : p.1 ∈ Region.ready .any ops listed := by
    refine Lw.2 ⟨hp1, (hun p.1 hp1).2 ⟨p.2, by simp⟩, ops[p.1], by simp [hp1], fun e he hb => ?_⟩
    have hlt' : e.on < p.1 := Nc hback (j := p.1) (o := ops[p.1]) (by simp [hp1]) he hb
    apply flip e.on (by omega)
    cases hx : listed.getD e.on true with
    | true => rfl
    | false =>
     obtain ⟨l, hl⟩ := (hun e.on (by omega)).1 hx
     rcases List.mem_cons.1 hl with h | h
     ·rw [← h] at hlt'; simp at hlt'
     ·rw [List.map_cons, List.pairwise_cons] at hsort
      have := hsort.1 e.on (List.mem_map.2 ⟨_, h, rfl⟩)
      omega
   rw [hr] at this; cases this
  ·intro i hi
   obtain ⟨h1, h2, o, ho, h3⟩ := Lw.1 hi
   obtain ⟨l, hl⟩ := (hun i h1).1 h2
   obtain ⟨ps, qs, hpq⟩ := OG hl
   rw [hpq] at hok hp hsort
   have hlen : t.length = (ps ++ qs).length := by
    have := congrArg List.length hpq
    simp at this ⊢; omega
   have hap : ∀ x, x ∈ ps → KZ x.2 l := by
    intro x hx
    rcases K6 hok x hx with hm | hm
    ·exfalso
     have hin : listed.getD x.1 false = true := M5 ops (fun i => listed.getD i false = true) hshut ops.toList [] (by simp) (by simp) i o ho h3 x.1 hm
     have hx1 : x.1 < ops.size := hlt x (by rw [hpq]; simp [hx])
     have : listed.getD x.1 true = false := (hun x.1 hx1).2 ⟨x.2, by rw [hpq]; simp [hx]⟩
     have hsl : x.1 < listed.size := by omega
     rw [Array.getD_eq_getD_getElem?] at hin this
     simp [hsl] at hin this
     rw [hin] at this; cases this
    ·exact DK.apart_spec hm
   have hp2 := JT.front hap hp
   rw [hlen]
   have hsub : (ps ++ qs).Sublist (ps ++ (i, l) :: qs) := List.Sublist.append (List.Sublist.refl _) (List.sublist_cons_self _ _)
   have hne : ∀ x, x ∈ ps ++ qs → x.1 ≠ i := by
    intro x hx e
    rw [List.map_append, List.map_cons, List.pairwise_append] at hsort
    rcases List.mem_append.1 hx with h | h
    ·have := hsort.2.2 x.1 (List.mem_map.2 ⟨x, h, rfl⟩) i (by simp)
     omega
    ·have := (List.pairwise_cons.1 hsort.2.1).1 x.1 (List.mem_map.2 ⟨x, h, rfl⟩)
     omega
   have hget : ∀ (j : Nat) (b : Bool), (listed.setIfInBounds i true).getD j b = if j = i then true else listed.getD j b := by
    intro j b
    rw [Array.getD_eq_getD_getElem?, Array.getD_eq_getD_getElem?, Array.getElem?_setIfInBounds]
    by_cases e : i = j
    ·subst e; simp [show i < listed.size from by omega]
    ·rw [if_neg e, if_neg (Ne.symm e)]
   refine hLR (i, l) (by rw [hpq]; simp) st a w _ _ hs hp2.1 fun a' w' hs' => ?_
   refine Md hback hQ (ps ++ qs) (listed.setIfInBounds i true) _ a' w' (by simp [hsz]) (fun x hx => hLR x (by rw [hpq]; exact hsub.subset hx)) ?_
    (fun x hx => hlt x (by rw [hpq]; exact hsub.subset hx)) (List.Pairwise.sublist (hsub.map _) hsort) ?_ (Kp hsub hok) hp2.2 hs'
   ·intro j hj
    rw [hget]
    constructor
    ·intro hx
     split at hx
     ·cases hx
     ·rename_i hji
      obtain ⟨m, hm⟩ := (hun j hj).1 hx
      rw [hpq] at hm
      refine ⟨m, ?_⟩
      rcases List.mem_append.1 hm with h | h
      ·exact List.mem_append.2 (.inl h)
      ·rcases List.mem_cons.1 h with h | h
       ·cases h; exact absurd rfl hji
       ·exact List.mem_append.2 (.inr h)
    ·rintro ⟨m, hm⟩
     rw [if_neg (hne _ hm)]
     exact (hun j hj).2 ⟨m, by rw [hpq]; exact hsub.subset hm⟩
   ·intro j o' ho' hj e he hb
    simp only [hget] at hj ⊢
    split
    ·rfl
    ·split at hj
     ·rename_i e1; subst e1
      rw [ho] at ho'; cases ho'
      exact h3 e he hb
     ·exact hshut j o' ho' hj e he hb
 termination_by t => t.length
 decreasing_by
  have := congrArg List.length hpq
  simp at this ⊢; omega
def G7 (P : Program) (X : JY) (st st' : St) : Prop := ∀ a w, OI P X st a w → OI P X st' a w
def BA (P : Program) (X : JY) (ops : Array Oper) (dr : Bool) (Q : St → Prop) : Nat → Nat → St → List (Nat × DK) → Prop
 | 0, _, st, log => (dr = true → (Hr (NL ops.toList []) log.reverse && JB ops) = true) ∧ Q st
 | r + 1, i, st, log => ∃ st1 l, (if dr = true then st1 = st else G7 P X st st1) ∧ LR P X ops i l ∧ l.pre st1 ∧ BA P X ops dr Q r (i + 1) (l.upd st1) ((i, l) :: log)
theorem JT.snoc {p : Nat × DK} : ∀ {ps : List (Nat × DK)} {st st' : St}, JT ps st st' → p.2.pre st' → JT (ps ++ [p]) st (p.2.upd st')
 | [], st, st', h, hp => by
  have h' : st' = st := h
  subst h'; exact ⟨hp, rfl⟩
 | q :: ps, st, st', h, hp => ⟨h.1, JT.snoc h.2 hp⟩
theorem BA.path {Q : St → Prop} {st0 : St} : ∀ (r i : Nat) (st : St) (log : List (Nat × DK)), BA P X ops true Q r i st log →
  (∀ p, p ∈ log → LR P X ops p.1 p.2) → JT log.reverse st0 st → (log.reverse.map (·.1)) = List.range i →
  ∃ full stn, (∀ p, p ∈ full → LR P X ops p.1 p.2) ∧ JT full st0 stn ∧ full.map (·.1) = List.range (i + r) ∧ (Hr (NL ops.toList []) full && JB ops) = true ∧ Q stn
 | 0, i, st, log, h, h1, h2, h3 => ⟨log.reverse, st, fun p hp => h1 p (by simpa using hp), h2, h3, h.1 rfl, h.2⟩
 | r + 1, i, st, log, h, h1, h2, h3 => by
  obtain ⟨st1, l, he, hl, hpre, hrun⟩ := h
  have he' : st1 = st := by simpa using he
  subst he'
  have := BA.path r (i + 1) _ _ hrun (fun p hp => (List.mem_cons.1 hp).elim (fun e => by subst e; exact hl) (h1 p))
   (by simp only [List.reverse_cons]; exact JT.snoc h2 hpre) (by simp [h3, List.range_succ])
  simpa [Nat.add_assoc, Nat.add_comm 1 r] using this
theorem BA.text {R : St → Prop} {Q : Exit → Act → World → Prop} (hQ : ∀ st a w, R st → OI P X st a w → Q .normal a w) :
  ∀ (r i : Nat) (st : St) (log : List (Nat × DK)) (a : Act) (w : World), BA P X ops false R r i st log → OI P X st a w → wpOps P ops Q (List.range' i r) a w
 | 0, i, st, log, a, w, h, hs => hQ _ _ _ h.2 hs
 | r + 1, i, st, log, a, w, h, hs => by
  obtain ⟨st1, l, he, hl, hpre, hrun⟩ := h
  have he' : G7 P X st st1 := by simpa using he
  rw [List.range'_succ, wpOps_cons]
  exact hl st1 a w _ _ (he' a w hs) hpre fun a' w' hs' => BA.text hQ r (i + 1) _ _ a' w' hrun hs'
theorem OI.drew {st : St} {a : Act} {w : World} (h : OI P X st a w) : OI P X st a { w with drawn := w.drawn + 1 } := by
 obtain ⟨G, h⟩ := h
 exact ⟨G, h.grow (Below.drew (Below.refl _ _))⟩
theorem Np {id : Nat} {dr : Bool} {R : St → Prop} {Q : Exit → Act → World → Prop} {st : St} {a : Act} {w : World} (hm : P.follows .mixedOrders = true)
  (hrun : BA P X ops dr R ops.size 0 st []) (hQ : ∀ st' a' w', R st' → OI P X st' a' w' → Q .normal a' w') (hs : OI P X st a w) : (Code.region id ops dr).wp P Q a w := by
 cases dr with
 | false =>
  refine wp_region ?_
  have := BA.text hQ ops.size 0 st [] a w hrun hs
  rwa [← List.range_eq_range'] at this
 | true =>
  obtain ⟨full, stn, h1, h2, h3, h6, h5⟩ := BA.path (st0 := st) ops.size 0 st [] hrun (by simp) rfl (by simp)
  rw [Nat.zero_add] at h3
  simp only [Bool.and_eq_true] at h6
  have hlen : full.length = ops.size := by have := congrArg List.length h3; simpa using this
  have hmem : ∀ p, p ∈ full → p.1 < ops.size := fun p hp => by
   have : p.1 ∈ full.map (·.1) := List.mem_map.2 ⟨p, hp, rfl⟩
   rw [h3] at this; simpa using this
  refine wp_region_any hm ?_
  rw [← hlen]
  refine Md h6.2 (fun a' w' hs' => hQ _ _ _ h5 hs') full (Array.replicate full.length false) st a _ (by simp [hlen]) h1 ?_ hmem ?_ ?_ h6.1 h2 hs.drew
  ·intro i hi
   constructor
   ·intro _
    have : i ∈ full.map (·.1) := by rw [h3]; simpa using hi
    obtain ⟨p, hp, e⟩ := List.mem_map.1 this
    exact ⟨p.2, by rw [← e]; exact hp⟩
   ·intro _
    rw [Array.getD_eq_getD_getElem?]
    simp [hlen, hi]
  ·rw [h3]; exact List.pairwise_lt_range
  ·intro j o ho hj
   rw [Array.getD_eq_getD_getElem?] at hj
   by_cases hlt : j < full.length
   ·simp [hlt] at hj
   ·simp [hlt] at hj
end Go.Lift

/- The operations, one rule each: moves, boxes, loads, stores, addresses, numbers. No condition. -/
namespace Go.Lift
open Go.RowKit
variable {P : Program} {X : JY} {ops : Array Oper}
abbrev one (t : T) : D := .e (.one (.pure t))
abbrev vD (v : Value) : D := .e (.one (.pure (.val v)))
abbrev bD (b : Bool) : D := .e (.one (.pure (.val (.bool b))))
inductive Q9 (ops : Array Oper) (o : Oper) : List (Operand × D) → Prop where
 | none (h : o.guard = none) : Q9 ops o []
 | some (j : Nat) (want : Bool) (t : Nat) (h : o.guard = some (j, want)) (hj : (ops[j]?).bind (·.dst) = some t) : Q9 ops o [(.tmp t, bD want)]
theorem OM {arr : Array Value} {t : Nat} {b : Bool} (h : AF arr t = .bool b) : arr[t]? = some (.bool b) := by
 unfold AF at h
 cases hx : arr[t]? with
 | none => rw [hx] at h; simp [undef] at h
 | some v => rw [hx] at h; simpa using h
theorem Eg.wanted {G : Gh} {st : St} {a : Act} {w : World} (h : Eg P X G st a w) {o : Oper} {gs : List (Operand × D)} (hg : Q9 ops o gs) (hp : GC st.env gs) :
  Region.wanted o (yielded ops a.tmps) = true := by
 cases hg with
 | none h0 => simp [Region.wanted, h0]
 | some j want t h0 hj =>
  have h1 : EK w G.S (AF a.tmps t) (.val (.bool want)) := h.env t _ hp.1
  have h2 : AF a.tmps t = .bool want := by
   generalize AF a.tmps t = v at h1
   cases h1; rfl
  have h3 := OM h2
  simp [Region.wanted, h0, yielded, hj, h3]
theorem Aw {env : Nat → Option D} : ∀ {a b : List (Operand × D)}, GC env (a ++ b) ↔ GC env a ∧ GC env b
 | [], b => by simp [GC]
 | p :: a, b => by simp only [List.cons_append, GC, Aw (a := a), and_assoc]
theorem LR.value {i : Nat} {o : Oper} {l : DK} {gs rs : List (Operand × D)} (ho : ops[i]? = some o) (hg : Q9 ops o gs) (hrs : l.rs = gs ++ rs) (hd : l.dst = o.dst) (hn : ∀ s, o.dst = some s → s < X.n)
  (h : ∀ G st a w, Eg P X G st a w → l.pre st → ∃ v w' G', (execOp a.eval o).run P w = .ok (.value v) w' ∧ Eg P X G' ⟨st.env, BW st.bx l.wb⟩ a w' ∧
   ∀ d, l.out = some d → HH P w' G' v d ∧ ∀ b, b ∈ d.names → ((BW st.bx l.wb) b).isSome = true) : LR P X ops i l := by
 intro st a w K Q hs hpre hK
 obtain ⟨G, hs⟩ := hs
 obtain ⟨v, w', G', hrun, hs', hout⟩ := h G st a w hs hpre
 have hw := hs.wanted hg (Aw.1 (hrs ▸ hpre.r)).1
 unfold wpOp
 rw [ho]
 simp only [hw, if_true]
 refine .inl ?_
 unfold Oper.wp
 rw [hrun]
 show K (a.put o.dst v) w'
 rw [← hd]
 exact hK _ _ ⟨G', hs'.put l.dst l.out v (by rw [hd]; exact hn) hout⟩
theorem LR.skip {i : Nat} {o : Oper} {l : DK} {gs rs : List (Operand × D)} (ho : ops[i]? = some o) (hg : Q9 ops o gs) (hrs : l.rs = gs ++ rs) (hd : o.dst = none) (hd' : l.dst = none)
  (h : ∀ G st a w, Eg P X G st a w → l.pre st → ∃ w' G', (execOp a.eval o).run P w = .ok .skip w' ∧ Eg P X G' ⟨st.env, BW st.bx l.wb⟩ a w') : LR P X ops i l := by
 intro st a w K Q hs hpre hK
 obtain ⟨G, hs⟩ := hs
 obtain ⟨w', G', hrun, hs'⟩ := h G st a w hs hpre
 have hw := hs.wanted hg (Aw.1 (hrs ▸ hpre.r)).1
 unfold wpOp
 rw [ho]
 simp only [hw, if_true]
 refine .inl ?_
 unfold Oper.wp
 rw [hrun]
 show K (a.put o.dst undef) w'
 refine hK _ _ ⟨G', ?_⟩
 rw [hd]
 unfold DK.upd
 rw [hd']
 exact hs'
def Wk (ops : Array Oper) (i n : Nat) : Option (Op × Nat) := match ops[i]? with
 | some o => (match o.guard, o.dst with
  | none, some s => if Nat.blt s n then some (o.op, s) else none
  | _, _ => none)
 | none => none
def V4 (ops : Array Oper) (i n : Nat) : Option (Op × Nat × Nat × Bool) := match ops[i]? with
 | some o => (match o.guard, o.dst with
  | some (j, want), some s => (match (ops[j]?).bind (·.dst) with
   | some t => if Nat.blt s n then some (o.op, s, t, want) else none
   | none => none)
  | _, _ => none)
 | none => none
inductive At (env : Nat → Option D) (ops : Array Oper) (i n : Nat) : Op → Nat → List (Operand × D) → Prop where
 | p {op : Op} {s : Nat} (h : Wk ops i n = some (op, s)) : At env ops i n op s []
 | g {op : Op} {s t : Nat} {want : Bool} (h : V4 ops i n = some (op, s, t, want)) (he : env t = some (bD want)) : At env ops i n op s [(.tmp t, bD want)]
theorem Pt {a b : Nat} (h : Nat.blt a b = true) : a < b := by rw [← Nat.blt_eq]; exact h
theorem At.out {env : Nat → Option D} {ops : Array Oper} {i n s : Nat} {op : Op} {gs : List (Operand × D)} (h : At env ops i n op s gs) :
  ∃ o, ops[i]? = some o ∧ o.op = op ∧ o.dst = some s ∧ s < n ∧ Q9 ops o gs ∧ GC env gs := by
 cases h with
 | p h =>
  unfold Wk at h
  split at h
  ·rename_i o ho
   split at h
   ·rename_i s' hg hd
    split at h
    ·rename_i hb
     cases h
     exact ⟨o, ho, rfl, hd, Pt hb, .none hg, trivial⟩
    ·cases h
   ·cases h
  ·cases h
 | g h he =>
  unfold V4 at h
  split at h
  ·rename_i o ho
   split at h
   ·rename_i j want' s' hg hd
    split at h
    ·rename_i t' ht
     split at h
     ·rename_i hb
      cases h
      exact ⟨o, ho, rfl, hd, Pt hb, .some j _ _ hg ht, he, trivial⟩
     ·cases h
    ·cases h
   ·cases h
  ·cases h
def O7 (ops : Array Oper) (i : Nat) : Option Op := match ops[i]? with
 | some o => (match o.guard, o.dst with
  | none, none => some o.op
  | _, _ => none)
 | none => none
theorem Mp {ops : Array Oper} {i : Nat} {op : Op} (h : O7 ops i = some op) : ∃ o, ops[i]? = some o ∧ o.op = op ∧ o.dst = none ∧ o.guard = none := by
 unfold O7 at h
 split at h
 ·rename_i o ho
  split at h
  ·rename_i hg hd
   cases h
   exact ⟨o, ho, rfl, hd, hg⟩
  ·cases h
 ·cases h
section run
variable {dr : Bool} {Q : St → Prop} {r i : Nat} {st : St} {log : List (Nat × DK)} {o : Oper} {gs : List (Operand × D)}
theorem BA.step {l : DK} (next : BA P X ops dr Q r (i + 1) (l.upd st) ((i, l) :: log)) (hp : l.pre st) (h : LR P X ops i l) : BA P X ops dr Q (r + 1) i st log := ⟨st, l, by cases dr; exact fun _ _ h => h; exact rfl, h, hp, next⟩
def Us (ops : Array Oper) (i n : Nat) : Option (Nat × Nat × Nat × Bool) := match ops[i]? with
 | some o => (match o.guard, o.dst with
  | some (j, want), some s => (match (ops[j]?).bind (·.dst) with
   | some t => if Nat.blt s n then some (j, s, t, want) else none
   | none => none)
  | _, _ => none)
 | none => none
theorem AC {t : Nat} {b : Bool} (hx : st.env t = some (bD b)) (h1 : b = true → BA P X ops dr Q r i (St.put st (some t) (some (bD true))) log) (h2 : b = false → BA P X ops dr Q r i (St.put st (some t) (some (bD false))) log) : BA P X ops dr Q r i st log := by
 have key : ∀ c : Bool, b = c → St.put st (some t) (some (bD c)) = st := by
  intro c hc
  subst hc
  apply St.ext
  ·intro u
   simp only [St.put]
   split
   ·rename_i e; rw [e, hx]
   ·rfl
  ·intro u; rfl
 cases b with
 | true => have := h1 rfl; rwa [key true rfl] at this
 | false => have := h2 rfl; rwa [key false rfl] at this
theorem En {st1 : St} (h : G7 P X st st1) (next : BA P X ops false Q (r + 1) i st1 log) : BA P X ops false Q (r + 1) i st log := by
 obtain ⟨st2, l, he, h1, h2, h3⟩ := next
 refine ⟨st2, l, ?_, h1, h2, h3⟩
 have he' : G7 P X st1 st2 := by simpa using he
 show if false = true then _ else _
 rw [if_neg (by decide)]
 exact fun a w hs => he' a w (h a w hs)
theorem Ec {s : Nat} (hd : o.dst = some s) (hn : s < X.n) : ∀ t, o.dst = some t → t < X.n := by
 intro t e; rw [hd] at e; cases e; exact hn
theorem Va {x : Operand} {d : D} {s : Nat} (ho : ops[i]? = some o) (hop : o.op = .move x ∨ o.op = .assign x) (hd : o.dst = some s) (hn : s < X.n) (hg : Q9 ops o gs) (hgp : GC st.env gs)
  (hx : opd st.env x = some d)
  (next : BA P X ops dr Q r (i + 1) (DK.upd ⟨gs ++ [(x, d)], [], some s, some d, [], []⟩ st) ((i, ⟨gs ++ [(x, d)], [], some s, some d, [], []⟩) :: log)) : BA P X ops dr Q (r + 1) i st log := by
 refine BA.step next ⟨Aw.2 ⟨hgp, hx, trivial⟩, trivial, trivial⟩ (LR.value ho hg rfl hd.symm (Ec hd hn) ?_)
 intro G st a w hs hpre
 have hx := (Aw.1 hpre.r).2.1
 refine ⟨a.eval x, w, G, ?_, hs, ?_⟩
 ·rcases hop with h | h <;> simp [execOp, h]
 ·rintro d' ⟨⟩
  exact ⟨hs.opd hx, hs.opd_live hx⟩
theorem TX {x : Operand} {d : D} {s : Nat} (hat : At st.env ops i X.n (.move x) s gs) (hx : opd st.env x = some d)
  (next : BA P X ops dr Q r (i + 1) (DK.upd ⟨gs ++ [(x, d)], [], some s, some d, [], []⟩ st) ((i, ⟨gs ++ [(x, d)], [], some s, some d, [], []⟩) :: log)) : BA P X ops dr Q (r + 1) i st log := by
 obtain ⟨o, ho, hop, hd, hn, hg, hgp⟩ := hat.out
 exact Va ho (.inl hop) hd hn hg hgp hx next
theorem Ra {x : Operand} {d : D} {s : Nat} (hat : At st.env ops i X.n (.assign x) s gs) (hx : opd st.env x = some d)
  (next : BA P X ops dr Q r (i + 1) (DK.upd ⟨gs ++ [(x, d)], [], some s, some d, [], []⟩ st) ((i, ⟨gs ++ [(x, d)], [], some s, some d, [], []⟩) :: log)) : BA P X ops dr Q (r + 1) i st log := by
 obtain ⟨o, ho, hop, hd, hn, hg, hgp⟩ := hat.out
 exact Va ho (.inr hop) hd hn hg hgp hx next
def E.cells : E → List C
 | .one c => [c]
 | .agg cs => cs
theorem Jz.cells {w : World} {G : Gh} {v : Value} {x : E} (h : Jz P w G v x) : v.cells.size = x.cells.length ∧ ∀ (j : Nat) (c : C), x.cells[j]? = some c → FT P w G (AF v.cells j) c := by
 cases x with
 | one c =>
  have h' : FT P w G v c := h
  have ho := h'.one
  have hc : v.cells = #[v] := by cases v <;> first | rfl | simp [HA] at ho
  rw [hc]
  refine ⟨rfl, fun j c' hj => ?_⟩
  cases j with
  | zero => simp [E.cells] at hj; subst hj; simpa [AF] using h'
  | succ j => simp [E.cells] at hj
 | agg cs =>
  obtain ⟨vs, rfl, hs, h⟩ := h
  exact ⟨hs, h⟩
theorem E.cells_names {x : E} {b : Nat} : b ∈ EY x.cells ↔ b ∈ x.names := by
 cases x <;> simp [E.cells, E.names, EY]
theorem Vv {x : Operand} {y : E} {s : Nat} {el : TypeId} (hat : At st.env ops i X.n (.box el x) s gs)
  (hx : opd st.env x = some (.e y)) (hnew : st.bx s = none)
  (next : BA P X ops dr Q r (i + 1) (DK.upd ⟨gs ++ [(x, .e y)], [], some s, some (.e (.one (.ptr s 0))), [(s, .box y.cells)], [s]⟩ st) ((i, ⟨gs ++ [(x, .e y)], [], some s, some (.e (.one (.ptr s 0))), [(s, .box y.cells)], [s]⟩) :: log)) : BA P X ops dr Q (r + 1) i st log := by
 obtain ⟨o, ho, hop, hd, hn, hg, hgp⟩ := hat.out
 refine BA.step next ⟨Aw.2 ⟨hgp, hx, trivial⟩, trivial, hnew, trivial⟩ (LR.value ho hg rfl hd.symm (Ec hd hn) ?_)
 intro G st a w hs hpre
 have hx := (Aw.1 hpre.r).2.1
 have hnew := hpre.n.1
 have hR : Jz P w G (a.eval x) y := hs.opd hx
 have hl := hs.opd_live hx
 obtain ⟨h1, h2⟩ := hR.cells
 have hext : G.ext (G.set s (some w.heap.size) undef) (fun b => (st.bx b).isSome = true) := Gh.set_ext _ _ _ _ (by simp [hnew])
 have key := hs.newB (.cells (a.eval x).cells el) s (.box y.cells) undef (hs.nl hn) hnew
  ⟨w.heap.size, (a.eval x).cells, el, by simp [Gh.set], by rw [ER, if_pos rfl], h1, fun j c hj => (h2 j c hj).mono hext (fun β hβ => by rw [ER, if_neg (Nat.ne_of_lt (hs.S_lt β hβ))])
   fun b hb => hl b (by show b ∈ y.names; rw [← E.cells_names]; exact Bq.2 ⟨c, List.mem_of_getElem? hj, hb⟩)⟩
  (fun c hc => hl c (by show c ∈ y.names; rw [← E.cells_names]; exact hc))
 refine ⟨.pointer (some ⟨w.heap.size, 0, none⟩), _, _, ?_, key, ?_⟩
 ·simp [execOp, hop, Instr.box, newVar, newRow]
 ·rintro d ⟨⟩
  refine ⟨⟨w.heap.size, by simp [Gh.set], rfl⟩, ?_⟩
  intro b hb
  simp [D.names, E.names, C.names] at hb
  subst hb; simp [BW]
def HR (P : Program) (t : TypeId) (n : Nat) : Bool := match P.info? t with | some i => i.size == n | none => false
def E9 (P : Program) (t : TypeId) (b : Bool) : Bool := match P.underlying t with | some (.struct _) | some (.array _ _) => b | some _ => !b | none => false
def ES (P : Program) (t : TypeId) : Option Value := (P.info? t).bind (·.zero)
def CR (P : Program) (s : TypeId) (f off : Nat) : Bool := match P.underlying s with
 | some (.struct fs) => (match fs[f]? with | some fl => fl.offset == off && (match P.info? fl.type with | some i => i.size != 0 | none => false) | none => false)
 | _ => false
def sliceB (P : Program) (t e : TypeId) : Bool := match P.underlying t with | some (.slice e') => e' == e | _ => false
theorem Fv {t n : Nat} (h : HR P t n = true) (w : World) : (sizeOf t).run P w = .ok n w := by
 unfold HR at h
 split at h
 ·rename_i i hi
  have : i.size = n := by simpa using h
  simp [sizeOf, typeInfo, program, Sem.run, hi, this]
 ·cases h
theorem AX {t : TypeId} {d : TypeDesc} (h : P.underlying t = some d) (w : World) : (underlying t).run P w = .ok d w := by
 simp [underlying, program, Sem.run, h]
theorem IA {t : TypeId} {b : Bool} (h : E9 P t b = true) (w : World) : (isAgg t).run P w = .ok b w := by
 unfold E9 at h
 unfold isAgg
 split at h
 ·rename_i hu; subst h; refine As (AX hu w) ?_; rfl
 ·rename_i hu; subst h; refine As (AX hu w) ?_; rfl
 ·rename_i d hu1 hu2 hd
  have : b = false := by simpa using h
  subst this
  refine As (AX hd w) ?_
  cases d <;> first | rfl | (exfalso; exact hu1 _ rfl) | (exfalso; exact hu2 _ _ rfl)
 ·cases h
theorem F5 {t : TypeId} {z : Value} (h : ES P t = some z) (w : World) : (zeroValue t).run P w = .ok z w := by
 unfold ES at h
 cases hi : P.info? t with
 | none => rw [hi] at h; cases h
 | some i =>
  rw [hi] at h
  simp only [Option.bind_some] at h
  simp [zeroValue, typeInfo, program, Sem.run, hi, h]
theorem OC {w : World} {G : Gh} {vs : Array Value} (h : vs.toList.all HA = true) (j : Nat) (c : C) (hj : (vs.toList.map fun v => C.pure (T.of v))[j]? = some c) : FT P w G (AF vs j) c := by
 rw [List.getElem?_map] at hj
 cases hx : vs.toList[j]? with
 | none => rw [hx] at hj; cases hj
 | some v =>
  rw [hx] at hj; cases hj
  have hv : vs[j]? = some v := by simpa using hx
  have h1 : HA v = true := List.all_eq_true.1 h v (List.mem_of_getElem? hx)
  simp only [AF, hv, Option.getD_some]
  exact EK.of h1
theorem Nu {l : List Value} : EY (l.map fun v => C.pure (T.of v)) = [] := by
 induction l with
 | nil => rfl
 | cons v l ih => simp only [List.map_cons, EY, C.names, ih, List.append_nil]
theorem Si {z : Value} {zs : List Value} {s : Nat} {el : TypeId} (hat : At st.env ops i X.n (.alloc el) s gs)
  (hz : ES P el = some z) (hzs : z.cells.toList = zs) (h1 : zs.all HA = true) (hnew : st.bx s = none)
  (next : BA P X ops dr Q r (i + 1) (DK.upd ⟨gs ++ [], [], some s, some (.e (.one (.ptr s 0))), [(s, .box (zs.map fun v => C.pure (T.of v)))], [s]⟩ st) ((i, ⟨gs ++ [], [], some s, some (.e (.one (.ptr s 0))), [(s, .box (zs.map fun v => C.pure (T.of v)))], [s]⟩) :: log)) : BA P X ops dr Q (r + 1) i st log := by
 obtain ⟨o, ho, hop, hd, hn, hg, hgp⟩ := hat.out
 subst hzs
 refine BA.step next ⟨Aw.2 ⟨hgp, trivial⟩, trivial, hnew, trivial⟩ (LR.value ho hg rfl hd.symm (Ec hd hn) ?_)
 intro G st a w hs hpre
 have hnew := hpre.n.1
 have key := hs.newB (.cells z.cells el) s (.box (z.cells.toList.map fun v => C.pure (T.of v))) undef (hs.nl hn) hnew
  ⟨w.heap.size, z.cells, el, by simp [Gh.set], by rw [ER, if_pos rfl], by simp, fun j c hj => OC h1 j c hj⟩
  (fun c hc => by
   have hc' : c ∈ EY (z.cells.toList.map fun v => C.pure (T.of v)) := hc
   rw [Nu] at hc'; cases hc')
 refine ⟨.pointer (some ⟨w.heap.size, 0, none⟩), _, _, ?_, key, ?_⟩
 ·simp only [execOp, hop, Instr.alloc]
  refine As (a := (.pointer (some ⟨w.heap.size, 0, none⟩))) (w1 := w.alloc (.cells z.cells el)) ?_ rfl
  refine As (F5 hz w) ?_
  simp [newVar, newRow]
 ·rintro d ⟨⟩
  refine ⟨⟨w.heap.size, by simp [Gh.set], rfl⟩, ?_⟩
  intro b hb
  simp [D.names, E.names, C.names] at hb
  subst hb; simp [BW]
theorem Kb {t : TypeId} {w : World} {β off : Nat} {arr : Array Value} {el : TypeId} {fz : Nat × Nat} (ht : E9 P t false = true) (h : w.heap[β]? = some (.cells arr el fz)) (hn : off < arr.size) :
  (Instr.loadAt t (.pointer (some ⟨β, off, none⟩))).run P w = .ok (AF arr off) w := by
 unfold Instr.loadAt
 refine As (a := (⟨β, off, none⟩ : Addr)) (w1 := w) rfl ?_
 unfold loadVar
 refine As (IA ht w) ?_
 exact NH h hn
theorem Ja {t : TypeId} {w : World} {β off n : Nat} {arr : Array Value} {el : TypeId} {fz : Nat × Nat} (ht : E9 P t true = true) (hz : HR P t n = true) (h : w.heap[β]? = some (.cells arr el fz)) (hn : off + n ≤ arr.size) :
  (Instr.loadAt t (.pointer (some ⟨β, off, none⟩))).run P w = .ok (.agg ((List.range n).map fun j => AF arr (off + j)).toArray) w := by
 unfold Instr.loadAt
 refine As (a := (⟨β, off, none⟩ : Addr)) (w1 := w) rfl ?_
 unfold loadVar
 refine As (IA ht w) ?_
 simp only [if_true]
 refine As (Fv hz w) (As (H4 h hn) rfl)
theorem Ir {f : Nat → Value} {n j : Nat} (h : j < n) : AF ((List.range n).map f).toArray j = f j := by
 simp [AF, h]
theorem SY {x : Operand} {b k s : Nat} {cells : List C} {c : C} {t : TypeId} (hat : At st.env ops i X.n (.load t x) s gs)
  (hx : opd st.env x = some (.e (.one (.ptr b k)))) (ht : E9 P t false = true) (hb : st.bx b = some (.box cells)) (hc : cells[k]? = some c)
  (next : BA P X ops dr Q r (i + 1) (DK.upd ⟨gs ++ [(x, .e (.one (.ptr b k)))], [(b, .box cells)], some s, some (.e (.one c)), [], []⟩ st) ((i, ⟨gs ++ [(x, .e (.one (.ptr b k)))], [(b, .box cells)], some s, some (.e (.one c)), [], []⟩) :: log)) : BA P X ops dr Q (r + 1) i st log := by
 obtain ⟨o, ho, hop, hd, hn, hg, hgp⟩ := hat.out
 refine BA.step next ⟨Aw.2 ⟨hgp, hx, trivial⟩, ⟨hb, trivial⟩, trivial⟩ (LR.value ho hg rfl hd.symm (Ec hd hn) ?_)
 intro G st a w hs hpre
 have hx := (Aw.1 hpre.r).2.1
 have hb := hpre.b.1
 obtain ⟨β, hβ, hv⟩ : FT P w G (a.eval x) (.ptr b k) := hs.opd hx
 obtain ⟨β', arr, el, h1, h2, h3, h4⟩ := hs.blk b _ hb
 rw [hβ] at h1; cases h1
 have hk : k < cells.length := by
  rcases Nat.lt_or_ge k cells.length with h | h
  ·exact h
  ·rw [List.getElem?_eq_none h] at hc; cases hc
 refine ⟨AF arr k, w, G, ?_, hs, ?_⟩
 ·simp only [execOp, hop, hv]
  exact As (Kb ht h2 (by omega)) rfl
 ·rintro d ⟨⟩
  exact ⟨h4 k c hc, fun b' hb' => hs.liveB b _ hb b' (Bq.2 ⟨c, List.mem_of_getElem? hc, hb'⟩)⟩
theorem SA {x : Operand} {b k n s : Nat} {cells cs : List C} {t : TypeId} (hat : At st.env ops i X.n (.load t x) s gs)
  (hx : opd st.env x = some (.e (.one (.ptr b k)))) (ht : E9 P t true = true) (hz : HR P t n = true) (hb : st.bx b = some (.box cells)) (hc : (cells.drop k).take n = cs) (hl : cs.length = n)
  (next : BA P X ops dr Q r (i + 1) (DK.upd ⟨gs ++ [(x, .e (.one (.ptr b k)))], [(b, .box cells)], some s, some (.e (.agg cs)), [], []⟩ st) ((i, ⟨gs ++ [(x, .e (.one (.ptr b k)))], [(b, .box cells)], some s, some (.e (.agg cs)), [], []⟩) :: log)) : BA P X ops dr Q (r + 1) i st log := by
 obtain ⟨o, ho, hop, hd, hn, hg, hgp⟩ := hat.out
 refine BA.step next ⟨Aw.2 ⟨hgp, hx, trivial⟩, ⟨hb, trivial⟩, trivial⟩ (LR.value ho hg rfl hd.symm (Ec hd hn) ?_)
 intro G st a w hs hpre
 have hx := (Aw.1 hpre.r).2.1
 have hb := hpre.b.1
 obtain ⟨β, hβ, hv⟩ : FT P w G (a.eval x) (.ptr b k) := hs.opd hx
 obtain ⟨β', arr, el, h1, h2, h3, h4⟩ := hs.blk b _ hb
 rw [hβ] at h1; cases h1
 by_cases hn0 : n = 0
 ·subst hn0
  have hcs : cs = [] := List.eq_nil_of_length_eq_zero hl
  subst hcs
  refine ⟨.agg #[], w, G, ?_, hs, ?_⟩
  ·simp only [execOp, hop, hv]
   refine As (a := .agg #[]) (w1 := w) ?_ rfl
   unfold Instr.loadAt
   refine As (a := (⟨β, k, none⟩ : Addr)) (w1 := w) rfl ?_
   unfold loadVar
   refine As (IA ht w) ?_
   simp only [if_true]
   refine As (Fv hz w) (As (w1 := w) (a := #[]) ?_ rfl)
   simp [loadCells, loadCellsFrom]
  ·rintro d ⟨⟩
   exact ⟨⟨#[], rfl, rfl, fun j c hj => by simp at hj⟩, fun b' hb' => by simp [D.names, E.names, EY] at hb'⟩
 have hk : k + n ≤ cells.length := by
  have := congrArg List.length hc
  simp at this; omega
 refine ⟨.agg ((List.range n).map fun j => AF arr (k + j)).toArray, w, G, ?_, hs, ?_⟩
 ·simp only [execOp, hop, hv]
  exact As (Ja ht hz h2 (by omega)) rfl
 ·rintro d ⟨⟩
  have hget : ∀ (j : Nat) (c : C), cs[j]? = some c → j < n ∧ cells[k + j]? = some c := by
   intro j c hj
   have hjn : j < n := by
    rcases Nat.lt_or_ge j cs.length with h | h
    ·omega
    ·rw [List.getElem?_eq_none h] at hj; cases hj
   refine ⟨hjn, ?_⟩
   rw [← hc, List.getElem?_take_of_lt hjn, List.getElem?_drop] at hj
   exact hj
  refine ⟨⟨_, rfl, by simp [hl], fun j c hj => ?_⟩, fun b' hb' => ?_⟩
  ·obtain ⟨hjn, hj'⟩ := hget j c hj
   rw [Ir hjn]
   exact h4 _ c hj'
  ·obtain ⟨c, hcm, hcb⟩ := Bq.1 hb'
   obtain ⟨j, hj⟩ := List.mem_iff_getElem?.1 hcm
   exact hs.liveB b _ hb b' (Bq.2 ⟨c, List.mem_of_getElem? (hget j c hj).2, hcb⟩)
end run
end Go.Lift

/- More operations, one rule each: loads and stores by every kind of address, addresses, lengths, numbers. No condition. -/
namespace Go.Lift
open Go.RowKit
variable {P : Program} {X : JY} {ops : Array Oper}
def JC {α : Type} : List α → Nat → List α → List α
 | cells, _, [] => cells
 | cells, k, c :: cs => JC (cells.set k c) (k + 1) cs
theorem Hv {α : Type} : ∀ (cs : List α) (cells : List α) (k : Nat), (JC cells k cs).length = cells.length
 | [], _, _ => rfl
 | c :: cs, cells, k => by rw [JC, Hv cs]; simp
theorem Kt {α : Type} : ∀ (cs : List α) (cells : List α) (k j : Nat), k + cs.length ≤ cells.length →
  (JC cells k cs)[j]? = if k ≤ j ∧ j < k + cs.length then cs[j - k]? else cells[j]?
 | [], cells, k, j, _ => by rw [JC, if_neg (by simp only [List.length_nil]; omega)]
 | c :: cs, cells, k, j, h => by
  simp only [List.length_cons] at h
  rw [JC, Kt cs _ _ _ (by simp; omega)]
  simp only [List.length_cons]
  by_cases e : j = k
  ·subst e
   rw [if_neg (by omega), if_pos (by omega), List.getElem?_set_self (by omega)]; simp
  ·by_cases e2 : k ≤ j ∧ j < k + (cs.length + 1)
   ·rw [if_pos (by omega), if_pos e2, show j - k = (j - (k + 1)) + 1 from by omega]; simp
   ·rw [if_neg (by omega), if_neg e2, List.getElem?_set_ne (Ne.symm e)]
theorem Ly {α : Type} {x : α} : ∀ {cs cells : List α} {k : Nat}, x ∈ JC cells k cs → x ∈ cells ∨ x ∈ cs
 | [], _, _, h => .inl h
 | c :: cs, cells, k, h => by
  rw [JC] at h
  rcases Ly h with h | h
  ·rcases List.mem_or_eq_of_mem_set h with h | h
   ·exact .inl h
   ·exact .inr (by simp [h])
  ·exact .inr (by simp [h])
theorem Mc {t : TypeId} {w : World} {β off n : Nat} {arr : Array Value} {el : TypeId} {v : Value} (hz : HR P t n = true) (hv : v.cells.size = n) (h : w.heap[β]? = some (.cells arr el (0, 0))) (hn : off + n ≤ arr.size)
  (h1 : ∀ u, u ∈ v.cells.toList → HA u = true) :
  (Instr.storeAt t (.pointer (some ⟨β, off, none⟩)) v).run P w = .ok () (Hm w β (.cells (Hf arr off v.cells.toList) el (0, 0))) := by
 unfold Instr.storeAt
 refine As (a := (⟨β, off, none⟩ : Addr)) (w1 := w) rfl ?_
 unfold storeVar
 refine As (Fv hz w) ?_
 rw [if_neg (by omega)]
 have := Gr (P := P) v.cells.toList w off 0 arr h (by simp [hv]; omega) h1
 simpa using this
theorem Jz.ones {w : World} {G : Gh} {v : Value} {y : E} (h : Jz P w G v y) : ∀ u, u ∈ v.cells.toList → HA u = true := by
 intro u hu
 obtain ⟨h1, h2⟩ := h.cells
 obtain ⟨j, hj⟩ := List.mem_iff_getElem?.1 hu
 have hj' : v.cells[j]? = some u := by simpa using hj
 have hlt : j < v.cells.size := by
  rcases Nat.lt_or_ge j v.cells.size with h' | h'
  ·exact h'
  ·rw [Array.getElem?_eq_none h'] at hj'; cases hj'
 have hc : y.cells[j]? = some (y.cells[j]'(by omega)) := by simp [show j < y.cells.length from by omega]
 have := (h2 j _ hc).one
 simpa [AF, hj'] using this
theorem GU {arr : Array Value} {j : Nat} : arr.toList[j]?.getD undef = AF arr j := by simp [AF]
section run
variable {dr : Bool} {Q : St → Prop} {r i : Nat} {st : St} {log : List (Nat × DK)} {o : Oper} {gs : List (Operand × D)}
theorem SU {x y : Operand} {b k n : Nat} {cells cells' : List C} {v : E} {t : TypeId} (hat : O7 ops i = some (.store t x y))
  (hx : opd st.env x = some (.e (.one (.ptr b k)))) (hy : opd st.env y = some (.e v)) (hb : st.bx b = some (.box cells)) (hz : HR P t n = true) (hv : v.cells.length = n) (hk : k + n ≤ cells.length) (hc : JC cells k v.cells = cells')
  (next : BA P X ops dr Q r (i + 1) (DK.upd ⟨[(x, .e (.one (.ptr b k))), (y, .e v)], [(b, .box cells)], none, none, [(b, .box cells')], []⟩ st) ((i, ⟨[(x, .e (.one (.ptr b k))), (y, .e v)], [(b, .box cells)], none, none, [(b, .box cells')], []⟩) :: log)) : BA P X ops dr Q (r + 1) i st log := by
 obtain ⟨o, ho, hop, hd, hgn⟩ := Mp hat
 have hg : Q9 ops o [] := .none hgn
 have hgp : GC st.env [] := trivial
 refine BA.step next ⟨⟨hx, hy, trivial⟩, ⟨hb, trivial⟩, trivial⟩ (LR.skip ho hg rfl hd rfl ?_)
 intro G st a w hs hpre
 obtain ⟨hx, hy, _⟩ := hpre.r
 have hb := hpre.b.1
 obtain ⟨β, hβ, hv'⟩ : FT P w G (a.eval x) (.ptr b k) := hs.opd hx
 have hR : Jz P w G (a.eval y) v := hs.opd hy
 have hl := hs.opd_live hy
 obtain ⟨g1, g2⟩ := hR.cells
 obtain ⟨β', arr, el, h1, h2, h3, h4⟩ := hs.blk b _ hb
 rw [hβ] at h1; cases h1
 have hat := hs.at_ok b _ β hb rfl (.inl hβ)
 have hsame : ∀ γ, G.S γ → (Hm w β (.cells (Hf arr k (a.eval y).cells.toList) el (0, 0))).heap[γ]? = w.heap[γ]? := fun γ hγ => by
  rw [E0, if_neg (fun (h9 : γ = β ∧ β < w.heap.size) => hat.2.2 (h9.1 ▸ hγ))]
 have hidx : G.ext G (fun _ => True) := ⟨fun _ h => h, fun _ _ => rfl, fun _ _ => rfl, fun _ _ => rfl⟩
 refine ⟨_, G, ?_, hs.setB (b := b) (k0 := .box cells) (k := .box cells') (o := .cells (Hf arr k (a.eval y).cells.toList) el (0, 0)) hb rfl rfl (.inl hβ) ⟨β, Hf arr k (a.eval y).cells.toList, el, hβ, by rw [E0, if_pos ⟨rfl, hat.2.1⟩], ?_, ?_⟩ ?_⟩
 ·simp only [execOp, hop, hv']
  exact As (Mc (n := n) hz (by omega) h2 (by omega) hR.ones) rfl
 ·rw [HT, h3, ← hc, Hv]
 ·intro j c hj
  rw [← hc, Kt _ _ _ _ (by omega)] at hj
  rw [Gq _ _ _ _ (by simp; omega)]
  simp only [Array.length_toList, g1]
  split at hj
  ·rename_i hin
   rw [if_pos hin, GU]
   exact (g2 _ c hj).mono hidx hsame (fun _ _ => trivial)
  ·rename_i hin
   rw [if_neg hin]
   exact (h4 j c hj).mono hidx hsame (fun _ _ => trivial)
 ·intro c hcn
  rw [← hc] at hcn
  obtain ⟨u, hu, hcu⟩ := Bq.1 hcn
  rcases Ly hu with h | h
  ·exact hs.liveB b _ hb c (Bq.2 ⟨u, h, hcu⟩)
  ·exact hl c (by show c ∈ v.names; rw [← E.cells_names]; exact Bq.2 ⟨u, h, hcu⟩)
def T.nrm : T → T
 | .nil0 => .sl []
 | t => t
def C.nrm : C → C
 | .pure t => .pure t.nrm
 | c => c
def E.nrm : E → E
 | .one c => .one c.nrm
 | .agg cs => .agg (cs.map C.nrm)
def D.nrm : D → D
 | .e x => .e x.nrm
 | .tup xs => .tup (xs.map E.nrm)
theorem EK.nrm {w : World} {S : Nat → Prop} {v : Value} {t : T} (h : EK w S v t) : EK w S v t.nrm := by
 cases t with
 | nil0 => cases h; exact .nil _ _
 | val u => exact h
 | sl rows => exact h
theorem FT.nrm {w : World} {G : Gh} {v : Value} {c : C} (h : FT P w G v c) : FT P w G v c.nrm := by
 cases c <;> first | exact h | exact EK.nrm h
theorem Jz.nrm {w : World} {G : Gh} {v : Value} {x : E} (h : Jz P w G v x) : Jz P w G v x.nrm := by
 cases x with
 | one c => exact FT.nrm h
 | agg cs =>
  obtain ⟨vs, e, hs, h⟩ := h
  refine ⟨vs, e, by simp [hs], fun j c hj => ?_⟩
  rw [List.getElem?_map] at hj
  cases hx : cs[j]? with
  | none => rw [hx] at hj; cases hj
  | some c0 => rw [hx] at hj; cases hj; exact (h j c0 hx).nrm
theorem HH.nrm {w : World} {G : Gh} {v : Value} {d : D} (h : HH P w G v d) : HH P w G v d.nrm := by
 cases d with
 | e x => exact Jz.nrm h
 | tup xs =>
  obtain ⟨vs, e, hs, h⟩ := h
  refine ⟨vs, e, by simp [hs], fun j c hj => ?_⟩
  rw [List.getElem?_map] at hj
  cases hx : xs[j]? with
  | none => rw [hx] at hj; cases hj
  | some c0 => rw [hx] at hj; cases hj; exact (h j c0 hx).nrm
def C.ts : C → Option T
 | .pure t => some t.nrm
 | _ => none
def E.ts : E → Option (List T)
 | .one c => match c.ts with
  | some t => some [t]
  | none => none
 | .agg cs => cs.mapM C.ts
theorem OK {α β : Type} {f : α → Option β} : ∀ {l : List α} {l' : List β}, l.mapM f = some l' → l'.length = l.length ∧ ∀ (j : Nat) (y : β), l'[j]? = some y → ∃ x, l[j]? = some x ∧ f x = some y
 | [], l', h => by simp at h; subst h; exact ⟨rfl, fun j y hy => by simp at hy⟩
 | a :: l, l', h => by
  rw [List.mapM_cons] at h
  cases ha : f a with
  | none => rw [ha] at h; simp at h
  | some b =>
   rw [ha] at h
   cases hl : l.mapM f with
   | none => rw [hl] at h; simp at h
   | some bs =>
    rw [hl] at h; simp at h; subst h
    obtain ⟨h1, h2⟩ := OK hl
    refine ⟨by simp [h1], fun j y hy => ?_⟩
    cases j with
    | zero => simp at hy; subst hy; exact ⟨a, rfl, ha⟩
    | succ j => exact h2 j y (by simpa using hy)
theorem FT.ts {w : World} {G : Gh} {v : Value} {c : C} {t : T} (h : FT P w G v c) (ht : c.ts = some t) : EK w G.S v t := by
 cases c <;> first | (cases ht; done) | (cases ht; exact EK.nrm h)
theorem Jz.ts {w : World} {G : Gh} {v : Value} {y : E} {ts : List T} (h : Jz P w G v y) (ht : y.ts = some ts) :
  v.cells.size = ts.length ∧ ∀ (j : Nat) (t : T), ts[j]? = some t → EK w G.S (AF v.cells j) t := by
 obtain ⟨h1, h2⟩ := h.cells
 cases y with
 | one c =>
  simp only [E.ts] at ht
  cases hc : c.ts with
  | none => rw [hc] at ht; cases ht
  | some t =>
   rw [hc] at ht; cases ht
   refine ⟨h1, fun j u hj => ?_⟩
   cases j with
   | zero => simp at hj; subst hj; exact (h2 0 c rfl).ts hc
   | succ j => simp at hj
 | agg cs =>
  obtain ⟨g1, g2⟩ := OK (show cs.mapM C.ts = some ts from ht)
  refine ⟨by rw [h1, g1]; rfl, fun j t hj => ?_⟩
  obtain ⟨c, hc1, hc2⟩ := g2 j t hj
  exact (h2 j c hc1).ts hc2
theorem Ag {α β : Type} {f : α → β} {l : List α} {k : Nat} {x : α} (h : l[k]? = some x) : (l.map f)[k]? = some (f x) := by
 rw [List.getElem?_map, h]; rfl
theorem AV {α : Type} {l : List α} {k : Nat} {x : α} (h : l[k]? = some x) : k < l.length := by
 rcases Nat.lt_or_ge k l.length with h' | h'
 ·exact h'
 ·rw [List.getElem?_eq_none h'] at h; cases h
theorem Mr {α : Type} {l : List α} {k j : Nat} {y x : α} (h : (l.set k y)[j]? = some x) : (j = k ∧ x = y) ∨ (j ≠ k ∧ l[j]? = some x) := by
 rw [List.getElem?_set] at h
 split at h
 ·rename_i e
  split at h
  ·exact .inl ⟨e.symm, by simpa using h.symm⟩
  ·cases h
 ·rename_i e
  exact .inr ⟨Ne.symm e, h⟩
theorem AT {x y : Operand} {b e ix k n : Nat} {rows rows' : List (List T)} {row : List T} {ts : List T} {v : E} {t : TypeId} (hat : O7 ops i = some (.store t x y))
  (hx : opd st.env x = some (.e (.one (.eptr b e ix k)))) (hy : opd st.env y = some (.e v)) (hb : st.bx b = some (.vec e rows)) (hrow : rows[ix]? = some row) (hts : v.ts = some ts) (hz : HR P t n = true) (hv : ts.length = n) (hk : k + n ≤ row.length)
  (hc : rows.set ix (JC row k ts) = rows')
  (next : BA P X ops dr Q r (i + 1) (DK.upd ⟨[(x, .e (.one (.eptr b e ix k))), (y, .e v)], [(b, .vec e rows)], none, none, [(b, .vec e rows')], []⟩ st) ((i, ⟨[(x, .e (.one (.eptr b e ix k))), (y, .e v)], [(b, .vec e rows)], none, none, [(b, .vec e rows')], []⟩) :: log)) : BA P X ops dr Q (r + 1) i st log := by
 obtain ⟨o, ho, hop, hd, hgn⟩ := Mp hat
 have hg : Q9 ops o [] := .none hgn
 have hgp : GC st.env [] := trivial
 refine BA.step next ⟨⟨hx, hy, trivial⟩, ⟨hb, trivial⟩, trivial⟩ (LR.skip ho hg rfl hd rfl ?_)
 intro G st a w hs hpre
 obtain ⟨hx, hy, _⟩ := hpre.r
 have hb := hpre.b.1
 obtain ⟨β, hβ, hv'⟩ : FT P w G (a.eval x) (.eptr b e ix k) := hs.opd hx
 have hR : Jz P w G (a.eval y) v := hs.opd hy
 obtain ⟨g1, g2⟩ := hR.ts hts
 rcases hs.blk b _ hb with ⟨_, _, h0, _⟩ | ⟨β', cap, arr, el, h0, h1, h2, h3, h4, h5, h6⟩
 ·subst h0; simp at hrow
 rw [hβ] at h0; cases h0
 have hat := hs.at_ok b _ β hb rfl (.inl hβ)
 have hsame : ∀ γ, G.S γ → (Hm w β (.cells (Hf arr (ix * e + k) (a.eval y).cells.toList) el (0, 0))).heap[γ]? = w.heap[γ]? := fun γ hγ => by
  rw [E0, if_neg (fun (h9 : γ = β ∧ β < w.heap.size) => hat.2.2 (h9.1 ▸ hγ))]
 have hre := h5 ix row hrow
 have hix := AV hrow
 have hbnd : ix * e + e ≤ arr.size := by
  rw [h4, ← Nat.succ_mul]; exact Nat.mul_le_mul_right e (by omega)
 have hoff : ix * e + k + n ≤ arr.size := by omega
 have hlen : ((a.eval y).cells.toList).length = n := by rw [Array.length_toList, g1, hv]
 refine ⟨_, G, ?_, hs.setB (b := b) (k0 := .vec e rows) (k := .vec e rows') (o := .cells (Hf arr (ix * e + k) (a.eval y).cells.toList) el (0, 0)) hb rfl rfl (.inl hβ)
  (.inr ⟨β, cap, Hf arr (ix * e + k) (a.eval y).cells.toList, el, hβ, by rw [h1, ← hc]; simp, by rw [E0, if_pos ⟨rfl, hat.2.1⟩], by rw [← hc]; simpa using h3, by rw [HT, h4], ?_, ?_⟩) (fun c hcn => by cases hcn)⟩
 ·simp only [execOp, hop, hv']
  exact As (Mc (n := n) hz (by omega) h2 hoff hR.ones) rfl
 ·intro j row' hj
  rw [← hc] at hj
  rcases Mr hj with ⟨_, rfl⟩ | ⟨_, hj⟩
  ·rw [Hv]; exact hre
  ·exact h5 j row' hj
 ·intro j row' m u hj hm
  rw [← hc] at hj
  rw [Gq _ _ _ _ (by rw [hlen]; exact hoff), hlen]
  rcases Mr hj with ⟨rfl, rfl⟩ | ⟨hne, hj⟩
  ·have hm2 := AV hm
   rw [Hv] at hm2
   rw [Kt _ _ _ _ (by omega)] at hm
   split at hm
   ·rename_i hin
    rw [if_pos (by omega), show j * e + m - (j * e + k) = m - k from by omega, GU]
    exact (g2 (m - k) u hm).mono hsame fun _ h => h
   ·rename_i hin
    rw [if_neg (by omega)]
    exact (h6 j row m u hrow hm).mono hsame fun _ h => h
  ·have hm2 := AV hm
   have hre' := h5 j row' hj
   have hlt : j < ix ∨ ix < j := by omega
   rw [if_neg ?_]
   ·exact (h6 j row' m u hj hm).mono hsame fun _ h => h
   ·rcases hlt with hlt | hlt
    ·have : j * e + e ≤ ix * e := by rw [← Nat.succ_mul]; exact Nat.mul_le_mul_right e hlt
     omega
    ·have : ix * e + e ≤ j * e := by rw [← Nat.succ_mul]; exact Nat.mul_le_mul_right e hlt
     omega
theorem R1 {x : Operand} {s : Nat} {ts : List T} {u : T} {t : TypeId} (hat : At st.env ops i X.n (.load t x) s gs)
  (hx : opd st.env x = some (.e (.one (.rop ts)))) (ht : E9 P t false = true) (hc : ts[0]? = some u)
  (next : BA P X ops dr Q r (i + 1) (DK.upd ⟨gs ++ [(x, .e (.one (.rop ts)))], [], some s, some (one u), [], []⟩ st) ((i, ⟨gs ++ [(x, .e (.one (.rop ts)))], [], some s, some (one u), [], []⟩) :: log)) : BA P X ops dr Q (r + 1) i st log := by
 obtain ⟨o, ho, hop, hd, hn, hg, hgp⟩ := hat.out
 refine BA.step next ⟨Aw.2 ⟨hgp, hx, trivial⟩, trivial, trivial⟩ (LR.value ho hg rfl hd.symm (Ec hd hn) ?_)
 intro G st a w hs hpre
 have hx := (Aw.1 hpre.r).2.1
 obtain ⟨β, off, arr, el, fz, hv, h1, h2, h3, h4⟩ : FT P w G (a.eval x) (.rop ts) := hs.opd hx
 have hk := AV hc
 refine ⟨AF arr off, w, G, ?_, hs, ?_⟩
 ·simp only [execOp, hop, hv]
  exact As (Kb ht h2 (by omega)) rfl
 ·rintro d ⟨⟩
  exact ⟨h4 0 u hc, fun b hb => by cases hb⟩
theorem KP {w : World} {G : Gh} {ts : List T} {f : Nat → Value} {n : Nat} (hn : ts.length = n) (h : ∀ (j : Nat) (t : T), ts[j]? = some t → EK w G.S (f j) t) :
  HH P w G (.agg ((List.range n).map f).toArray) (.e (.agg (ts.map C.pure))) := by
 refine ⟨_, rfl, by simp [hn], fun j c hj => ?_⟩
 rw [List.getElem?_map] at hj
 cases hx : ts[j]? with
 | none => rw [hx] at hj; cases hj
 | some t =>
  rw [hx] at hj; cases hj
  rw [Ir (by have := AV hx; omega)]
  exact h j t hx
theorem Kk {ts : List T} : EY (ts.map C.pure) = [] := by
 induction ts with
 | nil => rfl
 | cons t ts ih => simp only [List.map_cons, EY, C.names, ih, List.append_nil]
theorem QT {x : Operand} {s n : Nat} {ts us : List T} {t : TypeId} (hat : At st.env ops i X.n (.load t x) s gs)
  (hx : opd st.env x = some (.e (.one (.rop ts)))) (ht : E9 P t true = true) (hz : HR P t n = true) (hc : ts.take n = us) (hl : us.length = n)
  (next : BA P X ops dr Q r (i + 1) (DK.upd ⟨gs ++ [(x, .e (.one (.rop ts)))], [], some s, some (.e (.agg (us.map C.pure))), [], []⟩ st) ((i, ⟨gs ++ [(x, .e (.one (.rop ts)))], [], some s, some (.e (.agg (us.map C.pure))), [], []⟩) :: log)) : BA P X ops dr Q (r + 1) i st log := by
 obtain ⟨o, ho, hop, hd, hn, hg, hgp⟩ := hat.out
 refine BA.step next ⟨Aw.2 ⟨hgp, hx, trivial⟩, trivial, trivial⟩ (LR.value ho hg rfl hd.symm (Ec hd hn) ?_)
 intro G st a w hs hpre
 have hx := (Aw.1 hpre.r).2.1
 obtain ⟨β, off, arr, el, fz, hv, h1, h2, h3, h4⟩ : FT P w G (a.eval x) (.rop ts) := hs.opd hx
 have hk : n ≤ ts.length := by
  have := congrArg List.length hc
  simp at this; omega
 refine ⟨.agg ((List.range n).map fun j => AF arr (off + j)).toArray, w, G, ?_, hs, ?_⟩
 ·simp only [execOp, hop, hv]
  exact As (Ja ht hz h2 (by omega)) rfl
 ·rintro d ⟨⟩
  refine ⟨KP hl fun j u hj => ?_, fun b hb => ?_⟩
  ·have hjn := AV hj
   rw [← hc, List.getElem?_take_of_lt (by omega)] at hj
   exact h4 j u hj
  ·have hb' : b ∈ EY (us.map C.pure) := hb
   rw [Kk] at hb'; cases hb'
theorem QX {x : Operand} {b e ix k s : Nat} {rows : List (List T)} {row : List T} {u : T} {t : TypeId} (hat : At st.env ops i X.n (.load t x) s gs)
  (hx : opd st.env x = some (.e (.one (.eptr b e ix k)))) (ht : E9 P t false = true) (hb : st.bx b = some (.vec e rows)) (hrow : rows[ix]? = some row) (hc : row[k]? = some u)
  (next : BA P X ops dr Q r (i + 1) (DK.upd ⟨gs ++ [(x, .e (.one (.eptr b e ix k)))], [(b, .vec e rows)], some s, some (one u), [], []⟩ st) ((i, ⟨gs ++ [(x, .e (.one (.eptr b e ix k)))], [(b, .vec e rows)], some s, some (one u), [], []⟩) :: log)) : BA P X ops dr Q (r + 1) i st log := by
 obtain ⟨o, ho, hop, hd, hn, hg, hgp⟩ := hat.out
 refine BA.step next ⟨Aw.2 ⟨hgp, hx, trivial⟩, ⟨hb, trivial⟩, trivial⟩ (LR.value ho hg rfl hd.symm (Ec hd hn) ?_)
 intro G st a w hs hpre
 have hx := (Aw.1 hpre.r).2.1
 have hb := hpre.b.1
 obtain ⟨β, hβ, hv⟩ : FT P w G (a.eval x) (.eptr b e ix k) := hs.opd hx
 rcases hs.blk b _ hb with ⟨_, _, h0, _⟩ | ⟨β', cap, arr, el, h0, h1, h2, h3, h4, h5, h6⟩
 ·subst h0; simp at hrow
 rw [hβ] at h0; cases h0
 have hre := h5 ix row hrow
 have hix := AV hrow
 have hk := AV hc
 have hbnd : ix * e + e ≤ arr.size := by
  rw [h4, ← Nat.succ_mul]; exact Nat.mul_le_mul_right e (by omega)
 refine ⟨AF arr (ix * e + k), w, G, ?_, hs, ?_⟩
 ·simp only [execOp, hop, hv]
  exact As (Kb ht h2 (by omega)) rfl
 ·rintro d ⟨⟩
  exact ⟨h6 ix row k u hrow hc, fun b hb => by cases hb⟩
theorem K5 {x : Operand} {b e ix s : Nat} {rows : List (List T)} {row : List T} {t : TypeId} (hat : At st.env ops i X.n (.load t x) s gs)
  (hx : opd st.env x = some (.e (.one (.eptr b e ix 0)))) (ht : E9 P t true = true) (hz : HR P t e = true) (hb : st.bx b = some (.vec e rows)) (hrow : rows[ix]? = some row)
  (next : BA P X ops dr Q r (i + 1) (DK.upd ⟨gs ++ [(x, .e (.one (.eptr b e ix 0)))], [(b, .vec e rows)], some s, some (.e (.agg (row.map C.pure))), [], []⟩ st) ((i, ⟨gs ++ [(x, .e (.one (.eptr b e ix 0)))], [(b, .vec e rows)], some s, some (.e (.agg (row.map C.pure))), [], []⟩) :: log)) : BA P X ops dr Q (r + 1) i st log := by
 obtain ⟨o, ho, hop, hd, hn, hg, hgp⟩ := hat.out
 refine BA.step next ⟨Aw.2 ⟨hgp, hx, trivial⟩, ⟨hb, trivial⟩, trivial⟩ (LR.value ho hg rfl hd.symm (Ec hd hn) ?_)
 intro G st a w hs hpre
 have hx := (Aw.1 hpre.r).2.1
 have hb := hpre.b.1
 obtain ⟨β, hβ, hv⟩ : FT P w G (a.eval x) (.eptr b e ix 0) := hs.opd hx
 rcases hs.blk b _ hb with ⟨_, _, h0, _⟩ | ⟨β', cap, arr, el, h0, h1, h2, h3, h4, h5, h6⟩
 ·subst h0; simp at hrow
 rw [hβ] at h0; cases h0
 have hre := h5 ix row hrow
 have hix := AV hrow
 have hbnd : ix * e + e ≤ arr.size := by
  rw [h4, ← Nat.succ_mul]; exact Nat.mul_le_mul_right e (by omega)
 refine ⟨.agg ((List.range e).map fun j => AF arr (ix * e + 0 + j)).toArray, w, G, ?_, hs, ?_⟩
 ·simp only [execOp, hop, hv]
  exact As (Ja ht hz h2 (by omega)) rfl
 ·rintro d ⟨⟩
  refine ⟨KP hre fun j u hj => h6 ix row j u hrow hj, fun b hb => ?_⟩
  have hb' : b ∈ EY (row.map C.pure) := hb
  rw [Kk] at hb'; cases hb'
theorem Ke {s f off : Nat} {w : World} {β k : Nat} (h : CR P s f off = true) : (Instr.fieldAt s (.pointer (some ⟨β, k, none⟩)) f).run P w = .ok (.pointer (some ⟨β, k + off, none⟩)) w := by
 unfold CR at h
 split at h
 ·rename_i fs hu
  split at h
  ·rename_i fl hf
   simp only [Bool.and_eq_true, beq_iff_eq] at h
   obtain ⟨h1, h2⟩ := h
   split at h2
   ·rename_i inf hi
    have hne : inf.size ≠ 0 := by simpa using h2
    unfold Instr.fieldAt
    refine As (AX hu w) ?_
    simp only [hf]
    refine As (a := (⟨β, k, none⟩ : Addr)) (w1 := w) rfl ?_
    refine As (a := (⟨β, k + off, none⟩ : Addr)) (w1 := w) ?_ rfl
    unfold fieldPlace
    refine As (a := inf.size) (w1 := w) (by simp [sizeOf, typeInfo, program, Sem.run, hi]) ?_
    rw [if_neg hne, Addr.add_mk, h1]; rfl
   ·cases h2
  ·cases h
 ·cases h
theorem OP {x : Operand} {b k f off s : Nat} {t : TypeId} (hat : At st.env ops i X.n (.fieldAddr t x f) s gs)
  (hx : opd st.env x = some (.e (.one (.ptr b k)))) (hf : CR P t f off = true)
  (next : BA P X ops dr Q r (i + 1) (DK.upd ⟨gs ++ [(x, .e (.one (.ptr b k)))], [], some s, some (.e (.one (.ptr b (k + off)))), [], []⟩ st) ((i, ⟨gs ++ [(x, .e (.one (.ptr b k)))], [], some s, some (.e (.one (.ptr b (k + off)))), [], []⟩) :: log)) : BA P X ops dr Q (r + 1) i st log := by
 obtain ⟨o, ho, hop, hd, hn, hg, hgp⟩ := hat.out
 refine BA.step next ⟨Aw.2 ⟨hgp, hx, trivial⟩, trivial, trivial⟩ (LR.value ho hg rfl hd.symm (Ec hd hn) ?_)
 intro G st a w hs hpre
 have hx := (Aw.1 hpre.r).2.1
 obtain ⟨β, hβ, hv⟩ : FT P w G (a.eval x) (.ptr b k) := hs.opd hx
 refine ⟨_, w, G, by simp only [execOp, hop, hv]; exact As (Ke hf) rfl, hs, ?_⟩
 rintro d ⟨⟩
 exact ⟨⟨β, hβ, rfl⟩, fun b' hb' => hs.opd_live hx b' (by simpa [D.names, E.names, C.names] using hb')⟩
theorem NW {x : Operand} {b e ix k f off s : Nat} {t : TypeId} (hat : At st.env ops i X.n (.fieldAddr t x f) s gs)
  (hx : opd st.env x = some (.e (.one (.eptr b e ix k)))) (hf : CR P t f off = true)
  (next : BA P X ops dr Q r (i + 1) (DK.upd ⟨gs ++ [(x, .e (.one (.eptr b e ix k)))], [], some s, some (.e (.one (.eptr b e ix (k + off)))), [], []⟩ st) ((i, ⟨gs ++ [(x, .e (.one (.eptr b e ix k)))], [], some s, some (.e (.one (.eptr b e ix (k + off)))), [], []⟩) :: log)) : BA P X ops dr Q (r + 1) i st log := by
 obtain ⟨o, ho, hop, hd, hn, hg, hgp⟩ := hat.out
 refine BA.step next ⟨Aw.2 ⟨hgp, hx, trivial⟩, trivial, trivial⟩ (LR.value ho hg rfl hd.symm (Ec hd hn) ?_)
 intro G st a w hs hpre
 have hx := (Aw.1 hpre.r).2.1
 obtain ⟨β, hβ, hv⟩ : FT P w G (a.eval x) (.eptr b e ix k) := hs.opd hx
 refine ⟨_, w, G, by simp only [execOp, hop, hv]; exact As (Ke hf) rfl, hs, ?_⟩
 rintro d ⟨⟩
 exact ⟨⟨β, hβ, by rw [Nat.add_assoc]⟩, fun b' hb' => hs.opd_live hx b' (by simpa [D.names, E.names, C.names] using hb')⟩
theorem NU {x : Operand} {ts us : List T} {f off s : Nat} {t : TypeId} (hat : At st.env ops i X.n (.fieldAddr t x f) s gs)
  (hx : opd st.env x = some (.e (.one (.rop ts)))) (hf : CR P t f off = true) (hl : off ≤ ts.length) (hu : ts.drop off = us)
  (next : BA P X ops dr Q r (i + 1) (DK.upd ⟨gs ++ [(x, .e (.one (.rop ts)))], [], some s, some (.e (.one (.rop us))), [], []⟩ st) ((i, ⟨gs ++ [(x, .e (.one (.rop ts)))], [], some s, some (.e (.one (.rop us))), [], []⟩) :: log)) : BA P X ops dr Q (r + 1) i st log := by
 obtain ⟨o, ho, hop, hd, hn, hg, hgp⟩ := hat.out
 refine BA.step next ⟨Aw.2 ⟨hgp, hx, trivial⟩, trivial, trivial⟩ (LR.value ho hg rfl hd.symm (Ec hd hn) ?_)
 intro G st a w hs hpre
 have hx := (Aw.1 hpre.r).2.1
 obtain ⟨β, k, arr, el, fz, hv, h1, h2, h3, h4⟩ : FT P w G (a.eval x) (.rop ts) := hs.opd hx
 refine ⟨_, w, G, by simp only [execOp, hop, hv]; exact As (Ke hf) rfl, hs, ?_⟩
 rintro d ⟨⟩
 subst hu
 refine ⟨⟨β, k + off, arr, el, fz, rfl, h1, h2, by simp; omega, fun j u hj => ?_⟩, fun b hb => by cases hb⟩
 rw [List.getElem?_drop] at hj
 rw [Nat.add_assoc]
 exact h4 _ u hj
theorem Kh {t el e : Nat} {w : World} {β off len cap : Nat} {k : IntKind} {n : Int} (ht : sliceB P t el = true) (hz : HR P el e = true) (h0 : 0 ≤ n) (h1 : n.toNat < len) :
  (Instr.indexAt t (.slice (some ⟨β, off, none⟩) len cap) (.int k n)).run P w = .ok (.pointer (some ⟨β, off + n.toNat * e, none⟩)) w := by
 unfold sliceB at ht
 split at ht
 ·rename_i e' hu
  have : e' = el := by simpa using ht
  subst this
  unfold Instr.indexAt
  refine As (a := (k, n)) (w1 := w) rfl ?_
  refine As (AX hu w) ?_
  refine As (a := (some (⟨β, off, none⟩ : Addr), len, e')) (w1 := w) rfl ?_
  refine As (AX hu w) ?_
  have hc : 0 ≤ n ∧ n < (len : Int) := ⟨h0, by omega⟩
  simp only [hc, and_self, if_true]
  refine As (Fv hz w) ?_
  rw [Addr.add_mk]; rfl
 ·cases ht
end run
end Go.Lift

/- More operations: indexes, lengths, numbers, structs, slices made, cut and appended to. No condition. -/
namespace Go.Lift
open Go.RowKit
variable {P : Program} {X : JY} {ops : Array Oper}
section run
variable {dr : Bool} {Q : St → Prop} {r i : Nat} {st : St} {log : List (Nat × DK)} {o : Oper} {gs : List (Operand × D)}
theorem Fw {w : World} {S : Nat → Prop} {v u : Value} (h : EK w S v (.val u)) : v = u := by cases h; rfl
theorem S5 {x y : Operand} {s e : Nat} {rows : List (List T)} {row : List T} {t el : TypeId} {k : IntKind} {n : Int} (hat : At st.env ops i X.n (.indexAddr t x y) s gs)
  (hx : opd st.env x = some (one (.sl rows))) (hy : opd st.env y = some (vD (.int k n))) (ht : sliceB P t el = true) (hz : HR P el e = true) (h0 : 0 ≤ n) (hrow : rows[n.toNat]? = some row) (hl : row.length = e)
  (next : BA P X ops dr Q r (i + 1) (DK.upd ⟨gs ++ [(x, one (.sl rows)), (y, vD (.int k n))], [], some s, some (.e (.one (.rop row))), [], []⟩ st) ((i, ⟨gs ++ [(x, one (.sl rows)), (y, vD (.int k n))], [], some s, some (.e (.one (.rop row))), [], []⟩) :: log)) : BA P X ops dr Q (r + 1) i st log := by
 obtain ⟨o, ho, hop, hd, hn, hg, hgp⟩ := hat.out
 refine BA.step next ⟨Aw.2 ⟨hgp, hx, hy, trivial⟩, trivial, trivial⟩ (LR.value ho hg rfl hd.symm (Ec hd hn) ?_)
 intro G st a w hs hpre
 obtain ⟨hx, hy, _⟩ := (Aw.1 hpre.r).2
 have hR : EK w G.S (a.eval x) (.sl rows) := hs.opd hx
 have hY : a.eval y = .int k n := Fw (hs.opd hy : EK w G.S (a.eval y) (.val _))
 have hix := AV hrow
 generalize hv : a.eval x = v at hR
 cases hR with
 | nil => simp at hrow
 | sl β off cap e' arr el' fz rows h1 h2 h3 h4 h5 h6 =>
  have he : e' = e := by rw [← hl]; exact (h5 _ row hrow).symm
  subst he
  have hbnd : n.toNat * e' + e' ≤ rows.length * e' := by rw [← Nat.succ_mul]; exact Nat.mul_le_mul_right e' hix
  refine ⟨_, w, G, by simp only [execOp, hop, hv, hY]; exact As (Kh ht hz h0 hix) rfl, hs, ?_⟩
  rintro d ⟨⟩
  exact ⟨⟨β, _, arr, el', fz, rfl, h1, h2, by omega, fun j u hj => h6 _ row j u hrow hj⟩, fun b hb => by cases hb⟩
theorem Rm {x y : Operand} {s e b : Nat} {rows : List (List T)} {row : List T} {t el : TypeId} {k : IntKind} {n : Int} (hat : At st.env ops i X.n (.indexAddr t x y) s gs)
  (hx : opd st.env x = some (.e (.one (.own b)))) (hy : opd st.env y = some (vD (.int k n))) (hb : st.bx b = some (.vec e rows)) (ht : sliceB P t el = true) (hz : HR P el e = true) (h0 : 0 ≤ n) (hrow : rows[n.toNat]? = some row)
  (next : BA P X ops dr Q r (i + 1) (DK.upd ⟨gs ++ [(x, .e (.one (.own b))), (y, vD (.int k n))], [(b, .vec e rows)], some s, some (.e (.one (.eptr b e n.toNat 0))), [], []⟩ st) ((i, ⟨gs ++ [(x, .e (.one (.own b))), (y, vD (.int k n))], [(b, .vec e rows)], some s, some (.e (.one (.eptr b e n.toNat 0))), [], []⟩) :: log)) : BA P X ops dr Q (r + 1) i st log := by
 obtain ⟨o, ho, hop, hd, hn, hg, hgp⟩ := hat.out
 refine BA.step next ⟨Aw.2 ⟨hgp, hx, hy, trivial⟩, ⟨hb, trivial⟩, trivial⟩ (LR.value ho hg rfl hd.symm (Ec hd hn) ?_)
 intro G st a w hs hpre
 obtain ⟨hx, hy, _⟩ := (Aw.1 hpre.r).2
 have hb := hpre.b.1
 obtain ⟨hR, _⟩ : FT P w G (a.eval x) (.own b) := hs.opd hx
 have hY : a.eval y = .int k n := Fw (hs.opd hy : EK w G.S (a.eval y) (.val _))
 have hix := AV hrow
 rcases hs.blk b _ hb with ⟨_, _, h0', _⟩ | ⟨β, cap, arr, el', g0, g1, g2, g3, g4, g5, g6⟩
 ·subst h0'; simp at hrow
 ·refine ⟨_, w, G, by simp only [execOp, hop, hR, g1, hY]; exact As (Kh ht hz h0 hix) rfl, hs, ?_⟩
  rintro d ⟨⟩
  exact ⟨⟨β, g0, by simp⟩, fun b' hb' => hs.opd_live hx b' (by simpa [D.names, E.names, C.names] using hb')⟩
theorem Lt {t el : TypeId} {w : World} {a : Option Addr} {n c : Nat} {ty : TypeId} (ht : sliceB P t el = true) : (Builtin.len_ #[t] ty #[.slice a n c]).run P w = .ok (goInt n) w := by
 unfold sliceB at ht
 split at ht
 ·rename_i e' hu
  unfold Builtin.len_
  refine As (AX hu w) ?_
  rfl
 ·cases ht
theorem Hj {b : Builtin} {as : Array Operand} {ts : Array TypeId} {ρ : Operand → Value} {ty : TypeId} {w w' : World} {n : Next} (h : ∀ cs, (builtin b ts ty cs (as.map ρ)).run P w = .ok n w') :
  (do let d ← resolve ρ ⟨.builtin b, as, ts⟩ ty; invoke d.target d.args : Sem Next).run P w = .ok n w' := by
 simp only [resolve]
 exact h _
inductive Pb : D → List (Nat × B5) → Nat → Prop where
 | own (b e : Nat) (rows : List (List T)) : Pb (.e (.one (.own b))) [(b, .vec e rows)] rows.length
 | sl (rows : List (List T)) : Pb (one (.sl rows)) [] rows.length
 | nil : Pb (one .nil0) [] 0
theorem Eg.lenOf {G : Gh} {a : Act} {w : World} (h : Eg P X G st a w) {x : Operand} {d : D} {rb : List (Nat × B5)} {n : Nat} (hx : Lift.opd st.env x = some d) (hl : Pb d rb n) (hb : Ic st.bx rb) :
  ∃ b c, a.eval x = .slice b n c := by
 have hR := h.opd hx
 cases hl with
 | own b e rows =>
  obtain ⟨hR, _⟩ : FT P w G (a.eval x) (.own b) := hR
  rcases h.blk b _ hb.1 with ⟨a', h1, h0, _⟩ | ⟨β, cap, arr, el', g0, g1, _⟩
  ·subst h0; exact ⟨_, _, hR.trans h1⟩
  ·exact ⟨_, _, hR.trans g1⟩
 | sl rows =>
  have hR : EK w G.S (a.eval x) (.sl rows) := hR
  generalize a.eval x = v at hR
  cases hR with
  | nil a cap => exact ⟨_, _, rfl⟩
  | sl β off cap e' arr el' fz rows h1 h2 h3 h4 h5 h6 => exact ⟨_, _, rfl⟩
 | nil =>
  have hR : EK w G.S (a.eval x) .nil0 := hR
  generalize a.eval x = v at hR
  cases hR; exact ⟨_, _, rfl⟩
theorem Tw {x : Operand} {d : D} {s n0 n : Nat} {t el : TypeId} {rb : List (Nat × B5)} (hat : At st.env ops i X.n (.call ⟨.builtin .len, #[x], #[t]⟩) s gs)
  (hx : opd st.env x = some d) (hl : Pb d rb n0) (hb : Ic st.bx rb) (hln : n0 = n) (ht : sliceB P t el = true)
  (next : BA P X ops dr Q r (i + 1) (DK.upd ⟨gs ++ [(x, d)], rb, some s, some (vD (.int .i64 n)), [], []⟩ st) ((i, ⟨gs ++ [(x, d)], rb, some s, some (vD (.int .i64 n)), [], []⟩) :: log)) : BA P X ops dr Q (r + 1) i st log := by
 subst hln
 obtain ⟨o, ho, hop, hd, hn, hg, hgp⟩ := hat.out
 refine BA.step next ⟨Aw.2 ⟨hgp, hx, trivial⟩, hb, trivial⟩ (LR.value ho hg rfl hd.symm (Ec hd hn) ?_)
 intro G st a w hs hpre
 obtain ⟨hx, _⟩ := (Aw.1 hpre.r).2
 obtain ⟨b, c, he⟩ := hs.lenOf hx hl hpre.b
 refine ⟨.int .i64 n0, w, G, ?_, hs, ?_⟩
 ·simp only [execOp, hop]
  refine Hj fun cs => ?_
  simp only [List.map_toArray, List.map_cons, List.map_nil, builtin, he]
  exact As (Lt ht) rfl
 ·rintro d ⟨⟩
  exact ⟨.val _ rfl, fun b hb => by cases hb⟩
def F6 (P : Program) (op : BinOp) (xt : TypeId) (x y : Operand) (va vb v : Value) : Prop := ∀ w : World, (do eqGuard op xt x y va vb; binOp op xt va vb : Sem Value).run P w = .ok v w
def TE (P : Program) (op : UnOp) (va v : Value) : Prop := ∀ w : World, (Op.unary op va).run P w = .ok v w
def P0 (P : Program) (s t : TypeId) (va v : Value) : Prop := ∀ w : World, (convert s t va).run P w = .ok v w
theorem H8 {op : BinOp} {xt yt : TypeId} {x y : Operand} {va vb v : Value} {s : Nat} (hat : At st.env ops i X.n (.binOp op xt x y yt) s gs)
  (hx : opd st.env x = some (vD va)) (hy : opd st.env y = some (vD vb)) (hrun : F6 P op xt x y va vb v) (h1 : HA v = true)
  (next : BA P X ops dr Q r (i + 1) (DK.upd ⟨gs ++ [(x, vD va), (y, vD vb)], [], some s, some (vD v), [], []⟩ st) ((i, ⟨gs ++ [(x, vD va), (y, vD vb)], [], some s, some (vD v), [], []⟩) :: log)) : BA P X ops dr Q (r + 1) i st log := by
 obtain ⟨o, ho, hop, hd, hn, hg, hgp⟩ := hat.out
 refine BA.step next ⟨Aw.2 ⟨hgp, hx, hy, trivial⟩, trivial, trivial⟩ (LR.value ho hg rfl hd.symm (Ec hd hn) ?_)
 intro G st a w hs hpre
 obtain ⟨hx, hy, _⟩ := (Aw.1 hpre.r).2
 have hX : a.eval x = va := Fw (hs.opd hx : EK w G.S (a.eval x) (.val _))
 have hY : a.eval y = vb := Fw (hs.opd hy : EK w G.S (a.eval y) (.val _))
 refine ⟨v, w, G, ?_, hs, ?_⟩
 ·simp only [execOp, hop, hX, hY]
  exact As (hrun w) rfl
 ·rintro d ⟨⟩
  exact ⟨.val _ h1, fun b hb => by cases hb⟩
theorem WG {op : UnOp} {xt : TypeId} {x : Operand} {va v : Value} {s : Nat} (hat : At st.env ops i X.n (.unOp op xt x) s gs)
  (hx : opd st.env x = some (vD va)) (hrun : TE P op va v) (h1 : HA v = true)
  (next : BA P X ops dr Q r (i + 1) (DK.upd ⟨gs ++ [(x, vD va)], [], some s, some (vD v), [], []⟩ st) ((i, ⟨gs ++ [(x, vD va)], [], some s, some (vD v), [], []⟩) :: log)) : BA P X ops dr Q (r + 1) i st log := by
 obtain ⟨o, ho, hop, hd, hn, hg, hgp⟩ := hat.out
 refine BA.step next ⟨Aw.2 ⟨hgp, hx, trivial⟩, trivial, trivial⟩ (LR.value ho hg rfl hd.symm (Ec hd hn) ?_)
 intro G st a w hs hpre
 obtain ⟨hx, _⟩ := (Aw.1 hpre.r).2
 have hX : a.eval x = va := Fw (hs.opd hx : EK w G.S (a.eval x) (.val _))
 refine ⟨v, w, G, ?_, hs, ?_⟩
 ·simp only [execOp, hop, hX]
  exact As (hrun w) rfl
 ·rintro d ⟨⟩
  exact ⟨.val _ h1, fun b hb => by cases hb⟩
theorem TY {xt yt : TypeId} {x : Operand} {va v : Value} {s : Nat} (hat : At st.env ops i X.n (.convert xt yt x) s gs)
  (hx : opd st.env x = some (vD va)) (hrun : P0 P xt yt va v) (h1 : HA v = true)
  (next : BA P X ops dr Q r (i + 1) (DK.upd ⟨gs ++ [(x, vD va)], [], some s, some (vD v), [], []⟩ st) ((i, ⟨gs ++ [(x, vD va)], [], some s, some (vD v), [], []⟩) :: log)) : BA P X ops dr Q (r + 1) i st log := by
 obtain ⟨o, ho, hop, hd, hn, hg, hgp⟩ := hat.out
 refine BA.step next ⟨Aw.2 ⟨hgp, hx, trivial⟩, trivial, trivial⟩ (LR.value ho hg rfl hd.symm (Ec hd hn) ?_)
 intro G st a w hs hpre
 obtain ⟨hx, _⟩ := (Aw.1 hpre.r).2
 have hX : a.eval x = va := Fw (hs.opd hx : EK w G.S (a.eval x) (.val _))
 refine ⟨v, w, G, ?_, hs, ?_⟩
 ·simp only [execOp, hop, hX]
  exact As (hrun w) rfl
 ·rintro d ⟨⟩
  exact ⟨.val _ h1, fun b hb => by cases hb⟩
theorem Se (xt : TypeId) (x y : Operand) (k : IntKind) (a b : Int) : F6 P .add xt x y (.int k a) (.int k b) (.int k (k.wrap (a + b))) := fun w => by simp [eqGuard, binOp, Op.intArith]
theorem Sc (xt : TypeId) (x y : Operand) (k : IntKind) (a b : Int) : F6 P .sub xt x y (.int k a) (.int k b) (.int k (k.wrap (a - b))) := fun w => by simp [eqGuard, binOp, Op.intArith]
theorem SF (xt : TypeId) (x y : Operand) (k : IntKind) (a b : Int) : F6 P .mul xt x y (.int k a) (.int k b) (.int k (k.wrap (a * b))) := fun w => by simp [eqGuard, binOp, Op.intArith]
theorem SH (xt : TypeId) (x y : Operand) (k : IntKind) (a b : Int) (h : b ≠ 0) : F6 P .quo xt x y (.int k a) (.int k b) (.int k (k.wrap (a.tdiv b))) := fun w => by simp [eqGuard, binOp, Op.intDiv, h]
theorem SG (xt : TypeId) (x y : Operand) (k : IntKind) (a b : Int) (h : b ≠ 0) : F6 P .rem xt x y (.int k a) (.int k b) (.int k (a.tmod b)) := fun w => by simp [eqGuard, binOp, Op.intDiv, h]
def Gn (k : IntKind) (a b : Int) : Int := k.wrap (BitVec.ofInt k.bits a &&& BitVec.ofInt k.bits b).toNat
def Oy (k : IntKind) (a b : Int) : Int := k.wrap (BitVec.ofInt k.bits a ||| BitVec.ofInt k.bits b).toNat
def Ha (k : IntKind) (a b : Int) : Int := k.wrap (BitVec.ofInt k.bits a ^^^ BitVec.ofInt k.bits b).toNat
def Ed (k : IntKind) (a b : Int) : Int := k.wrap (BitVec.ofInt k.bits a &&& ~~~BitVec.ofInt k.bits b).toNat
def DD (k : IntKind) (a b : Int) : Int := k.wrap (a * 2 ^ min b.toNat k.bits)
def E2 (k : IntKind) (a b : Int) : Int := a.fdiv (2 ^ min b.toNat k.bits)
theorem Sr (xt : TypeId) (x y : Operand) (k : IntKind) (a b : Int) : F6 P .and xt x y (.int k a) (.int k b) (.int k (Gn k a b)) := fun w => by simp [eqGuard, binOp, Op.intBits, Gn]
theorem T2 (xt : TypeId) (x y : Operand) (k : IntKind) (a b : Int) : F6 P .or xt x y (.int k a) (.int k b) (.int k (Oy k a b)) := fun w => by simp [eqGuard, binOp, Op.intBits, Oy]
theorem Sa (xt : TypeId) (x y : Operand) (k : IntKind) (a b : Int) : F6 P .xor xt x y (.int k a) (.int k b) (.int k (Ha k a b)) := fun w => by simp [eqGuard, binOp, Op.intBits, Ha]
theorem PG (xt : TypeId) (x y : Operand) (k : IntKind) (a b : Int) : F6 P .andNot xt x y (.int k a) (.int k b) (.int k (Ed k a b)) := fun w => by simp [eqGuard, binOp, Op.intBits, Ed]
theorem SJ (xt : TypeId) (x y : Operand) (k k' : IntKind) (a b : Int) (h : 0 ≤ b) : F6 P .shl xt x y (.int k a) (.int k' b) (.int k (DD k a b)) := fun w => by
 simp [eqGuard, binOp, Op.shift, DD, show ¬ b < 0 from by omega]
theorem Sn (xt : TypeId) (x y : Operand) (k k' : IntKind) (a b : Int) (h : 0 ≤ b) : F6 P .shr xt x y (.int k a) (.int k' b) (.int k (E2 k a b)) := fun w => by
 simp [eqGuard, binOp, Op.shift, E2, show ¬ b < 0 from by omega]
theorem Sp (xt : TypeId) (x y : Operand) (k : IntKind) (a b : Int) : F6 P .eql xt x y (.int k a) (.int k b) (.bool (a == b)) := fun w => by simp [eqGuard, binOp, Op.intCmp]
theorem SN (xt : TypeId) (x y : Operand) (k : IntKind) (a b : Int) : F6 P .neq xt x y (.int k a) (.int k b) (.bool (a != b)) := fun w => by simp [eqGuard, binOp, Op.intCmp]
theorem SZ (xt : TypeId) (x y : Operand) (k : IntKind) (a b : Int) : F6 P .lss xt x y (.int k a) (.int k b) (.bool (decide (a < b))) := fun w => by simp [eqGuard, binOp, Op.intCmp]
theorem Sm (xt : TypeId) (x y : Operand) (k : IntKind) (a b : Int) : F6 P .leq xt x y (.int k a) (.int k b) (.bool (decide (a ≤ b))) := fun w => by simp [eqGuard, binOp, Op.intCmp]
theorem SW (xt : TypeId) (x y : Operand) (k : IntKind) (a b : Int) : F6 P .gtr xt x y (.int k a) (.int k b) (.bool (decide (b < a))) := fun w => by simp [eqGuard, binOp, Op.intCmp]
theorem SK (xt : TypeId) (x y : Operand) (k : IntKind) (a b : Int) : F6 P .geq xt x y (.int k a) (.int k b) (.bool (decide (b ≤ a))) := fun w => by simp [eqGuard, binOp, Op.intCmp]
def Tj (P : Program) (t : TypeId) : Bool := match P.underlying t with | some .bool => true | _ => false
theorem Uh (b : Bool) : TE P .not (.bool b) (.bool (!b)) := fun w => rfl
def Mi (P : Program) (t : TypeId) (k : IntKind) : Bool := match P.underlying t with | some (.int k') => k' == k | _ => false
theorem RS {s t : TypeId} {k : IntKind} (hs : (P.underlying s).isSome = true) (ht : Mi P t k = true) (k' : IntKind) (n : Int) : P0 P s t (.int k' n) (.int k (k.wrap n)) := fun w => by
 unfold Mi at ht
 split at ht
 ·rename_i k2 hu
  have : k2 = k := by simpa using ht
  subst this
  obtain ⟨d, hd⟩ := Option.isSome_iff_exists.1 hs
  unfold convert
  refine As (AX hd w) ?_
  refine As (AX hu w) ?_
  cases d <;> rfl
 ·cases ht
theorem T7 {c x y : Operand} {b : Bool} {d : D} {z : Operand} {s : Nat} (hat : At st.env ops i X.n (.pick c x y) s gs)
  (hc : opd st.env c = some (bD b)) (hz : (if b then x else y) = z) (hx : opd st.env z = some d)
  (next : BA P X ops dr Q r (i + 1) (DK.upd ⟨gs ++ [(c, bD b), (z, d)], [], some s, some d, [], []⟩ st) ((i, ⟨gs ++ [(c, bD b), (z, d)], [], some s, some d, [], []⟩) :: log)) : BA P X ops dr Q (r + 1) i st log := by
 obtain ⟨o, ho, hop, hd, hn, hg, hgp⟩ := hat.out
 refine BA.step next ⟨Aw.2 ⟨hgp, hc, hx, trivial⟩, trivial, trivial⟩ (LR.value ho hg rfl hd.symm (Ec hd hn) ?_)
 intro G st a w hs hpre
 obtain ⟨hc, hx, _⟩ := (Aw.1 hpre.r).2
 have hC : a.eval c = .bool b := Fw (hs.opd hc : EK w G.S (a.eval c) (.val _))
 refine ⟨a.eval z, w, G, ?_, hs, ?_⟩
 ·simp only [execOp, hop, hC]
  subst hz
  cases b <;> rfl
 ·rintro d ⟨⟩
  exact ⟨hs.opd hx, hs.opd_live hx⟩
theorem Qh {x : Operand} {xs : List E} {y : E} {k s : Nat} (hat : At st.env ops i X.n (.extract x k) s gs)
  (hx : opd st.env x = some (.tup xs)) (hk : xs[k]? = some y)
  (next : BA P X ops dr Q r (i + 1) (DK.upd ⟨gs ++ [(x, .tup xs)], [], some s, some (.e y), [], []⟩ st) ((i, ⟨gs ++ [(x, .tup xs)], [], some s, some (.e y), [], []⟩) :: log)) : BA P X ops dr Q (r + 1) i st log := by
 obtain ⟨o, ho, hop, hd, hn, hg, hgp⟩ := hat.out
 refine BA.step next ⟨Aw.2 ⟨hgp, hx, trivial⟩, trivial, trivial⟩ (LR.value ho hg rfl hd.symm (Ec hd hn) ?_)
 intro G st a w hs hpre
 obtain ⟨hx, _⟩ := (Aw.1 hpre.r).2
 obtain ⟨vs, hv, hl, h⟩ : HH P w G (a.eval x) (.tup xs) := hs.opd hx
 have hlt := AV hk
 refine ⟨AF vs k, w, G, ?_, hs, ?_⟩
 ·simp only [execOp, hop, hv, Instr.extract]
  rw [Ka (by omega)]
  rfl
 ·rintro d ⟨⟩
  exact ⟨h k y hk, fun b hb => hs.opd_live hx b (E4.2 ⟨y, List.mem_of_getElem? hk, hb⟩)⟩
end run
end Go.Lift

/- More operations: structs built, slices built, made, cut and appended to. No condition. -/
namespace Go.Lift
open Go.RowKit
variable {P : Program} {X : JY} {ops : Array Oper}
def F7 (P : Program) (t : TypeId) (n : Nat) : Bool := match P.info? t with | some i => i.bytes == n | none => false
theorem Ix {t : TypeId} {i : TypeInfo} (h : P.info? t = some i) (w : World) : (typeInfo t).run P w = .ok i w := by
 simp [typeInfo, program, Sem.run, h]
theorem Mw (off : Nat) : ∀ (l : List Value) (k : Nat) (arr : Array Value), (l.zipIdx k).foldl (fun cs (p : Value × Nat) => cs.setIfInBounds (off + p.2) p.1) arr = Hf arr (off + k) l
 | [], _, _ => rfl
 | v :: l, k, arr => by
  rw [List.zipIdx_cons, List.foldl_cons, Mw off l (k + 1)]
  rfl
theorem NG (arr cs : Array Value) (off : Nat) : (cs.zipIdx.foldl (fun cs (p : Value × Nat) => cs.setIfInBounds (off + p.2) p.1) arr) = Hf arr off cs.toList := by
 rw [← Array.foldl_toList, Array.toList_zipIdx]
 exact Mw off cs.toList 0 arr
def K0 (place : Nat → Option (Nat × Nat)) (cells : List C) : List (Nat × E) → Option (List C)
 | [] => some cells
 | p :: rest => match place p.1 with
  | none => none
  | some (off, size) => if p.2.cells.length == size && decide (off + size ≤ cells.length) then K0 place (JC cells off p.2.cells) rest else none
theorem NA {w : World} {G : Gh} (place : Nat → Option (Nat × Nat)) : ∀ (ps : List (Nat × E)) (vs : List (Nat × Value)) (cells cells' : List C) (arr : Array Value),
  arr.size = cells.length → (∀ (j : Nat) (c : C), cells[j]? = some c → FT P w G (AF arr j) c) →
  ps.length = vs.length → (∀ (j : Nat) (p : Nat × E) (v : Nat × Value), ps[j]? = some p → vs[j]? = some v → p.1 = v.1 ∧ Jz P w G v.2 p.2) →
  K0 place cells ps = some cells' →
  ∃ arr', Instr.fill place arr vs = some arr' ∧ arr'.size = cells'.length ∧ ∀ (j : Nat) (c : C), cells'[j]? = some c → FT P w G (AF arr' j) c
 | [], [], cells, cells', arr, h1, h2, _, _, h => by
  simp only [K0, Option.some.injEq] at h; subst h
  exact ⟨arr, rfl, h1, h2⟩
 | p :: ps, v :: vs, cells, cells', arr, h1, h2, hl, hp, h => by
  obtain ⟨e1, e2⟩ := hp 0 p v rfl rfl
  obtain ⟨g1, g2⟩ := e2.cells
  obtain ⟨vi, vv⟩ := v
  simp only at e1 g1 g2
  subst e1
  simp only [K0] at h
  cases hpl : place p.1 with
  | none => rw [hpl] at h; cases h
  | some os =>
   obtain ⟨off, size⟩ := os
   rw [hpl] at h
   simp only at h
   split at h
   ·rename_i hc
    simp only [Bool.and_eq_true, beq_iff_eq, decide_eq_true_eq] at hc
    obtain ⟨c1, c2⟩ := hc
    have hrec := NA place ps vs (JC cells off p.2.cells) cells' (Hf arr off vv.cells.toList) (by rw [HT, Hv, h1]) (fun j c hj => by
      rw [Kt _ _ _ _ (by omega)] at hj
      rw [Gq _ _ _ _ (by simp; omega)]
      simp only [Array.length_toList, g1]
      split at hj
      ·rename_i hin; rw [if_pos hin, GU]; exact g2 _ c hj
      ·rename_i hin; rw [if_neg hin]; exact h2 j c hj)
     (by simpa using hl) (fun j q u hq hu => hp (j + 1) q u (by simpa using hq) (by simpa using hu)) h
    obtain ⟨arr', r1, r2, r3⟩ := hrec
    refine ⟨arr', ?_, r2, r3⟩
    simp only [Instr.fill, hpl]
    rw [if_neg (by simp; omega), NG]
    exact r1
   ·cases h
def Iq (P : Program) (t : TypeId) : Option (List (Nat × Nat)) := match P.underlying t with
 | some (.struct fields) => fields.toList.mapM (fun f => (P.info? f.type).map fun i => (f.offset, i.size))
 | _ => none
def IR (ps : List (Nat × Operand × E)) : List (Operand × D) := ps.map fun p => (p.2.1, .e p.2.2)
theorem KR {G : Gh} {st : St} {a : Act} {w : World} (hs : Eg P X G st a w) : ∀ {ps : List (Nat × Operand × E)}, GC st.env (IR ps) →
  ∀ (j : Nat) (p : Nat × E) (v : Nat × Value), (ps.map fun p => (p.1, p.2.2))[j]? = some p → (ps.map fun p => (p.1, a.eval p.2.1))[j]? = some v → p.1 = v.1 ∧ Jz P w G v.2 p.2 ∧ ∀ b, b ∈ p.2.names → (st.bx b).isSome = true
 | q :: ps, h, 0, p, v, hp, hv => by
  simp at hp hv
  subst hp; subst hv
  exact ⟨rfl, hs.opd h.1, hs.opd_live h.1⟩
 | q :: ps, h, j + 1, p, v, hp, hv => KR hs h.2 j p v (by simpa using hp) (by simpa using hv)
theorem LV (place : Nat → Option (Nat × Nat)) {b : Nat} : ∀ {ps : List (Nat × E)} {cells cells' : List C}, K0 place cells ps = some cells' → b ∈ EY cells' → b ∈ EY cells ∨ ∃ p, p ∈ ps ∧ b ∈ p.2.names
 | [], cells, cells', h, hb => by simp only [K0, Option.some.injEq] at h; subst h; exact .inl hb
 | p :: ps, cells, cells', h, hb => by
  simp only [K0] at h
  split at h
  ·cases h
  ·split at h
   ·rcases LV place h hb with h1 | ⟨q, h1, h2⟩
    ·obtain ⟨c, hc, hbc⟩ := Bq.1 h1
     rcases Ly hc with h2 | h2
     ·exact .inl (Bq.2 ⟨c, h2, hbc⟩)
     ·exact .inr ⟨p, by simp, by rw [← E.cells_names]; exact Bq.2 ⟨c, h2, hbc⟩⟩
    ·exact .inr ⟨q, by simp [h1], h2⟩
   ·cases h
section run
variable {dr : Bool} {Q : St → Prop} {r i : Nat} {st : St} {log : List (Nat × DK)} {o : Oper} {gs : List (Operand × D)}
theorem Me (ps : List (Nat × Operand × E)) (ρ : Operand → Value) : ((ps.map fun p => (p.1, p.2.1)).toArray.map fun (i, x) => (i, ρ x)) = (ps.map fun p => (p.1, ρ p.2.1)).toArray := by
 simp [Function.comp_def]
theorem Sf {t : TypeId} {s : Nat} {z : Value} {zs : List Value} {pl : List (Nat × Nat)} {cells : List C} {parts : Array (Nat × Operand)} (ps : List (Nat × Operand × E)) (hat : At st.env ops i X.n (.build t parts) s gs) (hps : parts = (ps.map fun p => (p.1, p.2.1)).toArray)
  (hx : GC st.env (IR ps)) (hz : ES P t = some z) (hzs : z.cells.toList = zs) (h1 : zs.all HA = true) (hpl : Iq P t = some pl) (hf : K0 (pl[·]?) (zs.map fun v => C.pure (T.of v)) (ps.map fun p => (p.1, p.2.2)) = some cells)
  (next : BA P X ops dr Q r (i + 1) (DK.upd ⟨gs ++ IR ps, [], some s, some (.e (.agg cells)), [], []⟩ st) ((i, ⟨gs ++ IR ps, [], some s, some (.e (.agg cells)), [], []⟩) :: log)) : BA P X ops dr Q (r + 1) i st log := by
 obtain ⟨o, ho, hop, hd, hn, hg, hgp⟩ := hat.out
 refine BA.step next ⟨Aw.2 ⟨hgp, hx⟩, trivial, trivial⟩ (LR.value ho hg rfl hd.symm (Ec hd hn) ?_)
 intro G st a w hs hpre
 have hx := (Aw.1 hpre.r).2
 subst hzs
 have hpr := KR hs hx
 obtain ⟨arr', r1, r2, r3⟩ := NA (P := P) (w := w) (G := G) (pl[·]?) (ps.map fun p => (p.1, p.2.2)) (ps.map fun p => (p.1, a.eval p.2.1)) _ cells z.cells (by simp) (fun j c hj => OC h1 j c hj) (by simp) (fun j p v hp hv => ⟨(hpr j p v hp hv).1, (hpr j p v hp hv).2.1⟩) hf
 refine ⟨.agg arr', w, G, ?_, hs, ?_⟩
 ·simp only [execOp, hop, hps, Me]
  refine As (run_build w t _ arr' ?_) rfl
  unfold ES at hz
  cases hit : P.info? t with
  | none => rw [hit] at hz; cases hz
  | some it =>
   rw [hit] at hz
   simp only [Option.bind_some] at hz
   unfold Iq at hpl
   cases hu : P.underlying t with
   | none => rw [hu] at hpl; cases hpl
   | some d =>
    rw [hu] at hpl
    cases d <;> first | (cases hpl; done) | skip
    rename_i fields
    unfold Program.built
    rw [hit, hu]
    simp only [hz]
    rw [show (fields.toList.mapM fun f => (P.info? f.type).map fun i => (f.offset, i.size)) = some pl from hpl]
    simpa using r1
 ·rintro d ⟨⟩
  refine ⟨⟨arr', rfl, r2, r3⟩, fun b hb => ?_⟩
  rcases LV _ hf hb with h | ⟨p, h2, h3⟩
  ·rw [Nu] at h; cases h
  ·obtain ⟨j, hj⟩ := List.mem_iff_getElem?.1 h2
   have hlt := AV hj
   simp only [List.length_map] at hlt
   exact (hpr j p ((ps.map fun p => (p.1, a.eval p.2.1))[j]'(by simpa using hlt)) hj (by simp [hlt])).2.2 b h3
def Ez (w : World) (S : Nat → Prop) (arr : Array Value) (e off : Nat) (rows : List (List T)) : Prop :=
 off + rows.length * e ≤ arr.size ∧ (∀ (i : Nat) (row : List T), rows[i]? = some row → row.length = e) ∧ ∀ (i : Nat) (row : List T) (j : Nat) (t : T), rows[i]? = some row → row[j]? = some t → EK w S (AF arr (off + i * e + j)) t
theorem NS {w : World} {G : Gh} (e : Nat) : ∀ (ps : List (Nat × E)) (vs : List (Nat × Value)) (rows : List (List T)) (k n : Nat) (arr : Array Value),
  ps.map (·.1) = (List.range' k ps.length) → k + ps.length ≤ n → arr.size = n * e → ps.length = vs.length → (∀ (j : Nat) (p : Nat × E) (v : Nat × Value), ps[j]? = some p → vs[j]? = some v → p.1 = v.1 ∧ Jz P w G v.2 p.2) →
  (ps.mapM fun p => p.2.ts) = some rows → (∀ (i : Nat) (row : List T), rows[i]? = some row → row.length = e) →
  ∃ arr', Instr.fill (fun i => some (i * e, e)) arr vs = some arr' ∧ arr'.size = n * e ∧ (∀ j, j < k * e → AF arr' j = AF arr j) ∧ (∀ (i : Nat) (row : List T) (j : Nat) (t : T), rows[i]? = some row → row[j]? = some t → EK w G.S (AF arr' ((k + i) * e + j)) t)
 | [], [], rows, k, n, arr, _, _, hsz, _, _, hr, _ => by
  simp at hr; subst hr
  exact ⟨arr, rfl, hsz, fun _ _ => rfl, fun i row j t hi => by simp at hi⟩
 | p :: ps, v :: vs, rows, k, n, arr, hk, hkn, hsz, hl, hp, hr, hrl => by
  simp only [List.length_cons] at hkn hl
  have hk0 : p.1 = k := by
   have := congrArg (fun l : List Nat => l[0]?) hk
   simpa [List.range'] using this
  have hk1 : ps.map (·.1) = List.range' (k + 1) ps.length := by
   have := congrArg List.tail hk
   simpa [List.range'] using this
  obtain ⟨e1, e2⟩ := hp 0 p v rfl rfl
  rw [List.mapM_cons] at hr
  cases hts : p.2.ts with
  | none => rw [hts] at hr; simp at hr
  | some ts =>
   obtain ⟨g1, g2⟩ := e2.ts hts
   rw [hts] at hr
   cases hrs : (ps.mapM fun p => p.2.ts) with
   | none => rw [hrs] at hr; simp at hr
   | some rs =>
    rw [hrs] at hr
    simp at hr; subst hr
    have hte := hrl 0 ts rfl
    have hke : k * e + e ≤ n * e := by rw [← Nat.succ_mul]; exact Nat.mul_le_mul_right e (by omega)
    obtain ⟨arr', r1, r2, r3, r4⟩ := NS e ps vs rs (k + 1) n (Hf arr (k * e) v.2.cells.toList) hk1 (by omega) (by rw [HT, hsz]) (by omega) (fun j q u hq hu => hp (j + 1) q u (by simpa using hq) (by simpa using hu)) hrs (fun i row hi => hrl (i + 1) row (by simpa using hi))
    have hlen : v.2.cells.toList.length = e := by rw [Array.length_toList, g1, hte]
    have hov : ∀ j, AF (Hf arr (k * e) v.2.cells.toList) j = if k * e ≤ j ∧ j < k * e + e then AF v.2.cells (j - k * e) else AF arr j := fun j => by
     rw [Gq _ _ _ _ (by rw [hlen, hsz]; exact hke), hlen, GU]
    refine ⟨arr', ?_, r2, ?_, ?_⟩
    ·obtain ⟨vi, vv⟩ := v
     simp only at e1 g1
     simp only [Instr.fill]
     rw [if_neg (by rw [← e1, hk0]; simp; omega), NG, ← e1, hk0]
     exact r1
    ·intro j hj
     rw [r3 j (by rw [Nat.succ_mul]; omega), hov, if_neg (by omega)]
    ·intro i row j t hi hj
     cases i with
     | zero =>
      simp at hi; subst hi
      have hj2 := AV hj
      rw [Nat.add_zero, r3 _ (by rw [Nat.succ_mul]; omega), hov, if_pos (by omega), Nat.add_sub_cancel_left]
      exact g2 j t hj
     | succ i =>
      rw [show (k + (i + 1)) * e + j = (k + 1 + i) * e + j from by rw [show k + (i + 1) = k + 1 + i from by omega]]
      exact r4 i row j t (by simpa using hi) hj
theorem L6 {α β : Type} {f : α → Option β} : ∀ {l : List α} {l' : List β}, l.mapM f = some l' → l'.length = l.length
 | [], l', h => by simp at h; subst h; rfl
 | a :: l, l', h => by
  rw [List.mapM_cons] at h
  cases ha : f a with
  | none => rw [ha] at h; simp at h
  | some b =>
   rw [ha] at h
   cases hl : l.mapM f with
   | none => rw [hl] at h; simp at h
   | some bs => rw [hl] at h; simp at h; subst h; simp [L6 hl]
theorem NY {t el : TypeId} {s n e : Nat} {z : Value} {rows : List (List T)} {parts : Array (Nat × Operand)} (ps : List (Nat × Operand × E)) (hat : At st.env ops i X.n (.buildSlice t n parts) s gs) (hps : parts = (ps.map fun p => (p.1, p.2.1)).toArray)
  (hx : GC st.env (IR ps)) (hnew : st.bx s = none) (ht : sliceB P t el = true) (he : HR P el e = true) (hz : ES P el = some z) (hk : ps.map (·.1) = List.range' 0 ps.length) (hl : ps.length = n) (hsm : n * e ≤ 16777216) (hr : (ps.map fun p => (p.1, p.2.2)).mapM (fun p => p.2.ts) = some rows) (hrl : rows.all (fun row => row.length == e) = true)
  (next : BA P X ops dr Q r (i + 1) (DK.upd ⟨gs ++ IR ps, [], some s, some (.e (.one (.own s))), [(s, .vec e rows)], [s]⟩ st) ((i, ⟨gs ++ IR ps, [], some s, some (.e (.one (.own s))), [(s, .vec e rows)], [s]⟩) :: log)) : BA P X ops dr Q (r + 1) i st log := by
 obtain ⟨o, ho, hop, hd, hn, hg, hgp⟩ := hat.out
 refine BA.step next ⟨Aw.2 ⟨hgp, hx⟩, trivial, hnew, trivial⟩ (LR.value ho hg rfl hd.symm (Ec hd hn) ?_)
 intro G st a w hs hpre
 have hx := (Aw.1 hpre.r).2
 have hnew := hpre.n.1
 have hpr := KR hs hx
 have hrl' : ∀ (i : Nat) (row : List T), rows[i]? = some row → row.length = e := fun i row hi => by
  have := List.all_eq_true.1 hrl row (List.mem_of_getElem? hi); simpa using this
 have hrn : rows.length = n := by
  have := L6 hr
  simpa [hl] using this
 obtain ⟨arr', r1, r2, r3, r4⟩ := NS (P := P) (w := w) (G := G) e (ps.map fun p => (p.1, p.2.2)) (ps.map fun p => (p.1, a.eval p.2.1)) rows 0 n ((Array.range (n * e)).map (fun k => (if n * e = 0 then (#[] : Array Value) else z.cells)[k % (if n * e = 0 then (#[] : Array Value) else z.cells).size]!)) (by simpa [Function.comp_def] using hk) (by simp [hl]) (by simp) (by simp) (fun j p v hp hv => ⟨(hpr j p v hp hv).1, (hpr j p v hp hv).2.1⟩) hr hrl'
 simp only [Nat.zero_add] at r4
 have hext : G.ext (G.set s (some w.heap.size) (.slice (some ⟨w.heap.size, 0, none⟩) n n)) (fun b => (st.bx b).isSome = true) := Gh.set_ext _ _ _ _ (by simp [hnew])
 have key := hs.newB (.cells arr' el) s (.vec e rows) (.slice (some ⟨w.heap.size, 0, none⟩) n n) (hs.nl hn) hnew
  (.inr ⟨w.heap.size, n, arr', el, by simp [Gh.set], by simp [Gh.set, hrn], by rw [ER, if_pos rfl], by omega, r2, hrl', fun i row j t hi hj => (r4 i row j t hi hj).mono (fun β hβ => by rw [ER, if_neg (Nat.ne_of_lt (hs.S_lt β hβ))]) fun _ h => h⟩)
  (fun c hc => by cases hc)
 refine ⟨.slice (some ⟨w.heap.size, 0, none⟩) n n, _, _, ?_, key, ?_⟩
 ·simp only [execOp, hop, hps, Me]
  refine As (w1 := w.alloc (.cells arr' el)) (a := .slice (some ⟨w.heap.size, 0, none⟩) n n) ?_ rfl
  unfold sliceB at ht
  split at ht
  ·rename_i e' hu
   have : e' = el := by simpa using ht
   subst this
   unfold Instr.buildSlice
   refine As (AX hu w) ?_
   refine As (Fv he w) ?_
   rw [if_neg (by omega)]
   by_cases hne : n * e = 0
   ·rw [if_pos hne] at r1
    rw [if_pos hne]
    refine As (a := (#[] : Array Value)) (w1 := w) rfl ?_
    simp only [r1]
    rfl
   ·rw [if_neg hne] at r1
    rw [if_neg hne]
    refine As (F5 hz w) ?_
    refine As (a := z.cells) (w1 := w) rfl ?_
    simp only [r1]
    rfl
  ·cases ht
 ·rintro d ⟨⟩
  refine ⟨⟨by simp [Gh.set], _, _, _, rfl⟩, fun b hb => ?_⟩
  simp [D.names, E.names, C.names] at hb
  subst hb; simp [BW]
end run
end Go.Lift

/- More operations: slices made, cut and appended to. No condition. -/
namespace Go.Lift
open Go.RowKit
variable {P : Program} {X : JY} {ops : Array Oper}
def Gf : Nat := 4294967296
theorem TM : Gf * 4096 ≤ 140737488355328 := by simp [Gf]
def Kc : List Nat → List (Nat × B5)
 | [] => []
 | b :: bs => (b, .gone) :: Kc bs
theorem L8 {bx : Nat → Option B5} {c : Nat} : ∀ {gn : List Nat}, BW bx (Kc gn) c = if c ∈ gn then some .gone else bx c
 | [] => by simp [Kc, BW]
 | b :: bs => by
  simp only [Kc, BW, List.mem_cons]
  by_cases e : c = b
  ·simp [e]
  ·simp only [e, false_or, if_false]; exact L8
theorem Eg.newVec {G : Gh} {st : St} {a : Act} {w w' : World} (h : Eg P X G st a w) {s e : Nat} {rows : List (List T)} {gn : List Nat} {l : Option Nat} {v : Value} (hsl : Cx s = false) (hnew : st.bx s = none) (hgn : ∀ b, b ∈ gn → (st.bx b).isSome = true)
  (hl : ∀ β, l = some β → X.w0.heap.size ≤ β ∧ β < w'.heap.size ∧ ¬ G.S β ∧ ∀ b k, st.bx b = some k → k.real = true → G.has b β → b ∈ gn)
  (hw : ∀ γ, γ < w.heap.size → l ≠ some γ → w'.heap[γ]? = w.heap[γ]?) (hsz : w.heap.size ≤ w'.heap.size) (hbel : Ea X.L X.w0.heap.size X.w0 w')
  (hk : Gj P w' (G.set s l v) s (.vec e rows)) :
  Eg P X (G.set s l v) ⟨st.env, BW st.bx ((s, .vec e rows) :: Kc gn)⟩ a w' := by
 have hS : ∀ γ, G.S γ → w'.heap[γ]? = w.heap[γ]? := fun γ hγ => hw γ (h.S_lt γ hγ) fun e => (hl γ e).2.2.1 hγ
 have hbx : ∀ c, BW st.bx ((s, .vec e rows) :: Kc gn) c = if c = s then some (.vec e rows) else if c ∈ gn then some .gone else st.bx c := fun c => by
  simp only [BW]; split
  ·rfl
  ·exact L8
 refine h.frame ?_ (Gh.set_ext _ _ _ _ (by simp [hnew])) hS ?_ ?_ ?_ ?_ h.S_src hbel (Gh.set_lent _ _ hsl)
 ·intro c hc; rw [hbx]; split
  ·rfl
  ·split
   ·rfl
   ·exact hc
 ·intro c k hc
  rw [hbx] at hc
  split at hc
  ·rename_i e; subst e; cases hc; exact .inr ⟨hk, fun c hc => by cases hc⟩
  ·split at hc
   ·cases hc; exact .inr ⟨trivial, fun c hc => by cases hc⟩
   ·rename_i hns hng
    exact .inl ⟨hc, fun β hr hβ => hw β (h.at_ok c k β hc hr hβ).2.1 fun e => hng ((hl β e).2.2.2 c k hc hr hβ)⟩
 ·intro c k β hc hr hβ
  rw [hbx] at hc
  rw [Gh.set_has] at hβ
  split at hc
  ·rename_i e; rw [if_pos e] at hβ; exact ⟨.new (hl β hβ).1, (hl β hβ).2.1, (hl β hβ).2.2.1⟩
  ·rename_i e; rw [if_neg e] at hβ
   split at hc
   ·cases hc; cases hr
   ·have := h.at_ok c k β hc hr hβ; exact ⟨this.1, by omega, this.2.2⟩
 ·intro c c' k k' β hc hc' hr hr' hβ hβ'
  rw [hbx] at hc hc'
  rw [Gh.set_has] at hβ hβ'
  split at hc <;> split at hc'
  ·rename_i e e'; rw [e, e']
  ·rename_i e e'; rw [if_pos e] at hβ; rw [if_neg e'] at hβ'
   split at hc'
   ·cases hc'; cases hr'
   ·rename_i hng; exact absurd ((hl β hβ).2.2.2 c' k' hc' hr' hβ') hng
  ·rename_i e e'; rw [if_neg e] at hβ; rw [if_pos e'] at hβ'
   split at hc
   ·cases hc; cases hr
   ·rename_i hng; exact absurd ((hl β hβ').2.2.2 c k hc hr hβ) hng
  ·rename_i e e'; rw [if_neg e] at hβ; rw [if_neg e'] at hβ'
   split at hc
   ·cases hc; cases hr
   ·split at hc'
    ·cases hc'; cases hr'
    ·exact h.at_inj c c' k k' β hc hc' hr hr' hβ hβ'
 ·intro β hβ; have := h.S_lt β hβ; omega
inductive Up : D → List (Nat × B5) → Nat → List (List T) → Prop where
 | own (b e : Nat) (rows : List (List T)) : Up (.e (.one (.own b))) [(b, .vec e rows)] e rows
 | sl (e : Nat) (rows : List (List T)) (h : ∀ (i : Nat) (row : List T), rows[i]? = some row → row.length = e) : Up (one (.sl rows)) [] e rows
 | nil (e : Nat) : Up (one .nil0) [] e []
theorem Ez.ones {w : World} {S : Nat → Prop} {arr : Array Value} {e : Nat} {rows : List (List T)} (h : Ez w S arr e 0 rows) (hs : arr.size = rows.length * e) : ∀ u, u ∈ arr.toList → HA u = true := by
 intro u hu
 obtain ⟨k, hk⟩ := List.mem_iff_getElem?.1 hu
 have hk' : arr[k]? = some u := by simpa using hk
 have hlt : k < arr.size := by
  rcases Nat.lt_or_ge k arr.size with h' | h'
  ·exact h'
  ·rw [Array.getElem?_eq_none h'] at hk'; cases hk'
 rcases Nat.eq_zero_or_pos e with e0 | e0
 ·rw [e0, Nat.mul_zero] at hs; omega
 have h1 : k / e < rows.length := (Nat.div_lt_iff_lt_mul e0).2 (by omega)
 have h2 : k % e < e := Nat.mod_lt _ e0
 have hrow : rows[k / e]? = some rows[k / e] := by simp [h1]
 have hlen := h.2.1 _ _ hrow
 have hcell : (rows[k / e])[k % e]? = some ((rows[k / e])[k % e]'(by omega)) := by simp [show k % e < rows[k / e].length from by omega]
 have := (h.2.2 _ _ _ _ hrow hcell).one
 rw [show 0 + k / e * e + k % e = k from by rw [Nat.zero_add, Nat.mul_comm]; exact Nat.div_add_mod k e] at this
 simpa [AF, hk'] using this
theorem Ht {w : World} {S : Nat → Prop} {β off len cap e : Nat} {arr : Array Value} {el : TypeId} {fz : Nat × Nat} {rows : List (List T)} (hb : w.heap[β]? = some (.cells arr el fz)) (h : Ez w S arr e off rows) :
  ∃ news, (∀ w' : World, w'.heap = w.heap → (Builtin.firstCells e rows.length (.slice (some ⟨β, off, none⟩) len cap)).run P w' = .ok news w') ∧ Ez w S news e 0 rows ∧ news.size = rows.length * e := by
 obtain ⟨h1, h2, h3⟩ := h
 refine ⟨_, fun w' hw' => H4 (by rw [hw']; exact hb) h1, ⟨by simp, h2, fun i row j t hi hj => ?_⟩, by simp⟩
 have hj' := AV hj
 have hi' := AV hi
 have := h2 i row hi
 have hle : i * e + e ≤ rows.length * e := by rw [← Nat.succ_mul]; exact Nat.mul_le_mul_right e hi'
 rw [Nat.zero_add, Ir (by omega), ← Nat.add_assoc]
 exact h3 i row j t hi hj
theorem F2 {w : World} {a : Option Addr} {len cap e : Nat} {S : Nat → Prop} : ∃ news, (∀ w' : World, w'.heap = w.heap → (Builtin.firstCells e 0 (.slice a len cap)).run P w' = .ok news w') ∧ Ez w S news e 0 [] ∧ news.size = 0 := by
 refine ⟨#[], fun w' _ => ?_, ⟨by simp, fun i row h => by simp at h, fun i row j t h => by simp at h⟩, rfl⟩
 cases a <;> simp [Builtin.firstCells, loadCells, loadCellsFrom]
theorem Eg.src {G : Gh} {st : St} {a : Act} {w : World} (hs : Eg P X G st a w) {x : Operand} {d : D} {rb : List (Nat × B5)} {e : Nat} {rows : List (List T)} (hx : Lift.opd st.env x = some d) (h : Up d rb e rows) (hb : Ic st.bx rb) :
  ∃ b cap news, a.eval x = .slice b rows.length cap ∧ rows.length ≤ cap ∧ (∀ w' : World, w'.heap = w.heap → (Builtin.firstCells e rows.length (a.eval x)).run P w' = .ok news w') ∧ Ez w G.S news e 0 rows ∧ news.size = rows.length * e := by
 have hR := hs.opd hx
 cases h with
 | own b e rows =>
  obtain ⟨hR, _⟩ : FT P w G (a.eval x) (.own b) := hR
  rcases hs.blk b _ hb.1 with ⟨a', h1, h0, _⟩ | ⟨β, cap, arr, el', g0, g1, g2, g3, g4, g5, g6⟩
  ·subst h0
   rw [hR, h1]
   obtain ⟨news, k1, k2, k3⟩ := F2 (P := P) (w := w) (a := a') (len := 0) (cap := 0) (e := e) (S := G.S)
   exact ⟨_, _, news, rfl, by simp, k1, k2, by simpa using k3⟩
  ·rw [hR, g1]
   obtain ⟨news, k1, k2, k3⟩ := Ht (P := P) (S := G.S) (len := rows.length) (cap := cap) (e := e) g2 (rows := rows) ⟨by rw [g4, Nat.zero_add]; exact Nat.mul_le_mul_right e g3, g5, fun i row j t hi hj => by rw [Nat.zero_add]; exact g6 i row j t hi hj⟩
   exact ⟨_, _, news, rfl, g3, k1, k2, k3⟩
 | sl e rows hrow =>
  have hR : EK w G.S (a.eval x) (.sl rows) := hR
  generalize a.eval x = v at hR
  cases hR with
  | nil a' cap =>
   obtain ⟨news, k1, k2, k3⟩ := F2 (P := P) (w := w) (a := a') (len := 0) (cap := cap) (e := e) (S := G.S)
   exact ⟨_, _, news, rfl, by simp, k1, k2, by simpa using k3⟩
  | sl β off cap e' arr el' fz rows h1 h2 h3 h4 h5 h6 =>
   have key : Ez w G.S arr e off rows := by
    cases rows with
    | nil => exact ⟨by simp at h4 ⊢; exact h4, fun i row h => by simp at h, fun i row j t h => by simp at h⟩
    | cons r0 rs =>
     have he : e' = e := by rw [← hrow 0 r0 rfl]; exact (h5 0 r0 rfl).symm
     subst he
     exact ⟨h4, h5, h6⟩
   obtain ⟨news, k1, k2, k3⟩ := Ht (P := P) (len := rows.length) (cap := cap) h2 key
   exact ⟨_, _, news, rfl, h3, k1, k2, k3⟩
 | nil e =>
  have hR : EK w G.S (a.eval x) .nil0 := hR
  generalize a.eval x = v at hR
  cases hR with
  | nil0 a' =>
   obtain ⟨news, k1, k2, k3⟩ := F2 (P := P) (w := w) (a := a') (len := 0) (cap := 0) (e := e) (S := G.S)
   exact ⟨_, _, news, rfl, by simp, k1, k2, by simpa using k3⟩
theorem MQ {need cap el : Nat} {w : World} : ∃ c, need ≤ c ∧ (choose (.appendCap need cap el)).run P w = .ok c w.drew := by
 refine ⟨need + w.tape w.drawn (.appendCap need cap el) % (2 ^ 63 - need), Nat.le_add_right _ _, ?_⟩
 rfl
theorem IU {t t2 el el2 e bytes : Nat} {w : World} {z x : Value} {a : Option Addr} {n cap n2 cap2 : Nat} {b2 : Option Addr} {olds news : Array Value} {ty : TypeId} (ht : sliceB P t el = true) (ht2 : sliceB P t2 el2 = true) (he : HR P el e = true) (hby : F7 P el bytes = true) (hbs : bytes ≤ 4096)
  (hz : ES P el = some z) (hzs : z.cells.size = e) (hx : x = .slice b2 n2 cap2) (hold : ∀ w' : World, w'.heap = w.heap → (Builtin.firstCells e n (.slice a n cap)).run P w' = .ok olds w') (hnew : ∀ w' : World, w'.heap = w.heap → (Builtin.firstCells e n2 x).run P w' = .ok news w') (hlim : n + n2 ≤ Gf) (hcap : n ≤ cap) :
  (n + n2 ≤ cap ∧ ∀ w' : World, (∀ p, a = some p → (storeCells (p.add (n * e)) news.toList).run P w = .ok () w') → (a = none → w' = w) → (Builtin.append_ #[t, t2] ty #[.slice a n cap, x]).run P w = .ok (.slice a (n + n2) cap) w') ∨
  (cap < n + n2 ∧ ∃ c rest, n + n2 ≤ c ∧ (Builtin.append_ #[t, t2] ty #[.slice a n cap, x]).run P w = .ok (.slice (some ⟨w.heap.size, 0, none⟩) (n + n2) c) (w.drew.alloc (.cells (olds ++ news ++ rest) el)) ∧ rest.size = (c - (n + n2)) * e) := by
 unfold sliceB at ht ht2
 split at ht
 ·rename_i e' hu
  split at ht2
  ·rename_i e2' hu2
   have : e' = el := by simpa using ht
   subst this
   unfold F7 at hby
   split at hby
   ·rename_i inf hinf
    have hbytes : inf.bytes = bytes := by simpa using hby
    have hsize : inf.size = e := by unfold HR at he; rw [hinf] at he; simpa using he
    have hzero : inf.zero = some z := by unfold ES at hz; rw [hinf] at hz; simpa using hz
    have hlen : ∀ w' : World, (Builtin.lenOf x).run P w' = .ok n2 w' := fun w' => by rw [hx]; rfl
    have hst : ∀ w' : World, (sizeOf e').run P w' = .ok e w' := fun w' => Fv he w'
    by_cases hfit : n + n2 ≤ cap
    ·refine .inl ⟨hfit, fun w' hp hno => ?_⟩
     unfold Builtin.append_
     refine As (AX hu w) ?_
     refine As (hst w) ?_
     refine As (AX hu2 w) ?_
     refine As (a := false) (w1 := w) rfl ?_
     refine As (hlen w) ?_
     simp only [hfit, if_true]
     refine As (hnew w rfl) ?_
     cases a with
     | none => rw [hno rfl]; rfl
     | some p => exact As (hp p rfl) rfl
    ·refine .inr ⟨by omega, ?_⟩
     have hnc : Builtin.nextslicecap (n + n2) cap * inf.bytes ≤ 281474976710656 := growslice_fits (by omega) (by
      rw [hbytes]
      exact Nat.le_trans (Nat.mul_le_mul hlim hbs) TM)
     obtain ⟨c, hc1, hc2⟩ := MQ (P := P) (need := n + n2) (cap := cap) (el := e') (w := w)
     refine ⟨c, Builtin.zeroCells z.cells (c - (n + n2)), hc1, ?_, by simp [Builtin.zeroCells, hzs]⟩
     have hc3 : ¬ (((n + n2 : Nat) : Int) > IntKind.i64.max ∧ (false = true ∨ inf.bytes = 0)) := by
      have h1 : IntKind.i64.max = 9223372036854775807 := rfl
      have h2 : Gf = 4294967296 := by simp [Gf]
      rw [h1]; omega
     have hc4 : ¬ (Builtin.nextslicecap (n + n2) cap * inf.bytes > 2 ^ 48) := by omega
     unfold Builtin.append_
     refine As (AX hu w) ?_
     refine As (hst w) ?_
     refine As (AX hu2 w) ?_
     refine As (a := false) (w1 := w) rfl ?_
     refine As (hlen w) ?_
     simp only [hfit, if_false]
     refine As (Ix hinf w) ?_
     rw [if_neg hc3]
     refine As (Ix hinf w) ?_
     rw [if_neg hc4]
     refine As hc2 ?_
     refine As (Ix hinf w.drew) ?_
     refine As (run_askRoom P w.drew _) ?_
     refine As (hold w.drew rfl) ?_
     refine As (hnew w.drew rfl) ?_
     refine As (F5 hz w.drew) ?_
     rfl
   ·cases hby
  ·cases ht2
 ·cases ht
end Go.Lift

/- The rules of append, make and of a slice cut out of a slice. No condition. -/
namespace Go.Lift
open Go.RowKit
variable {P : Program} {X : JY} {ops : Array Oper}
theorem D1 {a b : Array Value} {j : Nat} (h : j < a.size) : AF (a ++ b) j = AF a j := by
 unfold AF; rw [Array.getElem?_append_left h]
theorem Il {a b : Array Value} {j : Nat} (h : a.size ≤ j) : AF (a ++ b) j = AF b (j - a.size) := by
 unfold AF; rw [Array.getElem?_append_right h]
inductive UI : D → List (Nat × B5) → List Nat → Nat → List (List T) → Prop where
 | own (b e : Nat) (rows : List (List T)) : UI (.e (.one (.own b))) [(b, .vec e rows)] [b] e rows
 | nil (e : Nat) : UI (one .nil0) [] [] e []
theorem J6 {bx : Nat → Option B5} : ∀ {a b : List (Nat × B5)}, Ic bx (a ++ b) ↔ Ic bx a ∧ Ic bx b
 | [], b => by simp [Ic]
 | p :: a, b => by simp only [List.cons_append, Ic, J6 (a := a), and_assoc]
theorem I0 {w : World} {S : Nat → Prop} {arr news : Array Value} {e : Nat} {rows rows2 : List (List T)} {off : Nat} {f : Nat → Value}
  (h1 : Ez w S arr e 0 rows) (h2 : Ez w S news e 0 rows2) (hf1 : ∀ j, j < rows.length * e → f j = AF arr j) (hf2 : ∀ j, j < rows2.length * e → f (rows.length * e + j) = AF news j) :
  (∀ (i : Nat) (row : List T), (rows ++ rows2)[i]? = some row → row.length = e) ∧ ∀ (i : Nat) (row : List T) (j : Nat) (t : T), (rows ++ rows2)[i]? = some row → row[j]? = some t → EK w S (f (i * e + j)) t := by
 have hlen : ∀ (i : Nat) (row : List T), (rows ++ rows2)[i]? = some row → row.length = e := fun i row hi => by
  rcases Nat.lt_or_ge i rows.length with h | h
  ·rw [List.getElem?_append_left h] at hi; exact h1.2.1 i row hi
  ·rw [List.getElem?_append_right h] at hi; exact h2.2.1 _ row hi
 refine ⟨hlen, fun i row j t hi hj => ?_⟩
 have hj' := AV hj
 have he := hlen i row hi
 rcases Nat.lt_or_ge i rows.length with h | h
 ·rw [List.getElem?_append_left h] at hi
  have hle : i * e + e ≤ rows.length * e := by rw [← Nat.succ_mul]; exact Nat.mul_le_mul_right e h
  rw [hf1 _ (by omega)]
  have := h1.2.2 i row j t hi hj
  rwa [Nat.zero_add] at this
 ·rw [List.getElem?_append_right h] at hi
  have hi2 := AV hi
  have hle : (i - rows.length) * e + e ≤ rows2.length * e := by rw [← Nat.succ_mul]; exact Nat.mul_le_mul_right e hi2
  have hsplit : i * e + j = rows.length * e + ((i - rows.length) * e + j) := by
   rw [← Nat.add_assoc, ← Nat.add_mul, show rows.length + (i - rows.length) = i from by omega]
  rw [hsplit, hf2 _ (by omega)]
  have := h2.2.2 _ row j t hi hj
  rwa [Nat.zero_add] at this
theorem IB (w : World) : w.drew.heap = w.heap := rfl
theorem Ez.mono {w w' : World} {S : Nat → Prop} {arr : Array Value} {e off : Nat} {rows : List (List T)} (h : Ez w S arr e off rows) (hw : ∀ β, S β → w'.heap[β]? = w.heap[β]?) : Ez w' S arr e off rows :=
 ⟨h.1, h.2.1, fun i row j t hi hj => (h.2.2 i row j t hi hj).mono hw fun _ h => h⟩
section run
variable {dr : Bool} {Q : St → Prop} {r i : Nat} {st : St} {log : List (Nat × DK)} {o : Oper} {gs : List (Operand × D)}
theorem Eg.dst {G : Gh} {a : Act} {w : World} (hs : Eg P X G st a w) {x : Operand} {d : D} {rb : List (Nat × B5)} {gn : List Nat} {e : Nat} {rows : List (List T)} (hx : Lift.opd st.env x = some d) (h : UI d rb gn e rows) (hb : Ic st.bx rb) :
  (∃ a0, a.eval x = .slice a0 0 0 ∧ rows = []) ∨
  (∃ b β cap arr el', gn = [b] ∧ st.bx b = some (.vec e rows) ∧ G.loc b = some β ∧ a.eval x = .slice (some ⟨β, 0, none⟩) rows.length cap ∧ w.heap[β]? = some (.cells arr el' (0, 0)) ∧ rows.length ≤ cap ∧ arr.size = cap * e ∧ Ez w G.S arr e 0 rows) := by
 have hR := hs.opd hx
 cases h with
 | own b e rows =>
  obtain ⟨hR, _⟩ : FT P w G (a.eval x) (.own b) := hR
  rcases hs.blk b _ hb.1 with ⟨a', h1, h0, _⟩ | ⟨β, cap, arr, el', g0, g1, g2, g3, g4, g5, g6⟩
  ·exact .inl ⟨a', hR.trans h1, h0⟩
  ·exact .inr ⟨b, β, cap, arr, el', rfl, hb.1, g0, hR.trans g1, g2, g3, g4, ⟨by rw [g4, Nat.zero_add]; exact Nat.mul_le_mul_right e g3, g5, fun i row j t hi hj => by rw [Nat.zero_add]; exact g6 i row j t hi hj⟩⟩
 | nil e =>
  have hR : EK w G.S (a.eval x) .nil0 := hR
  generalize a.eval x = v at hR
  cases hR with
  | nil0 a' => exact .inl ⟨a', rfl, rfl⟩
theorem Qp {d : D} {rb : List (Nat × B5)} {gn : List Nat} {e : Nat} {rows : List (List T)} (h : UI d rb gn e rows) (hb : Ic st.bx rb) : ∀ b, b ∈ gn → (st.bx b).isSome = true := by
 cases h with
 | own b e rows => intro c hc; simp at hc; subst hc; simp [hb.1]
 | nil e => intro c hc; cases hc
theorem OH {x y : Operand} {t t2 el el2 s e bytes : Nat} {d d2 : D} {rb rb2 : List (Nat × B5)} {gn : List Nat} {rows rows2 rows' : List (List T)} {z : Value} (hat : At st.env ops i X.n (.call ⟨.builtin .append, #[x, y], #[t, t2]⟩) s gs)
  (hx : opd st.env x = some d) (hD : UI d rb gn e rows) (hb : Ic st.bx rb) (hy : opd st.env y = some d2) (hS : Up d2 rb2 e rows2) (hb2 : Ic st.bx rb2) (hnew : st.bx s = none)
  (ht : sliceB P t el = true) (ht2 : sliceB P t2 el2 = true) (he : HR P el e = true) (hby : F7 P el bytes = true) (hbs : bytes ≤ 4096) (hz : ES P el = some z) (hzs : z.cells.size = e) (hlim : rows.length + rows2.length ≤ Gf) (hr : rows ++ rows2 = rows') (hle : gn.all (fun b => !Cx b) = true)
  (next : BA P X ops dr Q r (i + 1) (DK.upd ⟨gs ++ [(x, d), (y, d2)], rb ++ rb2, some s, some (.e (.one (.own s))), (s, .vec e rows') :: Kc gn, [s]⟩ st) ((i, ⟨gs ++ [(x, d), (y, d2)], rb ++ rb2, some s, some (.e (.one (.own s))), (s, .vec e rows') :: Kc gn, [s]⟩) :: log)) : BA P X ops dr Q (r + 1) i st log := by
 obtain ⟨o, ho, hop, hd, hn, hg, hgp⟩ := hat.out
 refine BA.step next ⟨Aw.2 ⟨hgp, hx, hy, trivial⟩, J6.2 ⟨hb, hb2⟩, hnew, trivial⟩ (LR.value ho hg rfl hd.symm (Ec hd hn) ?_)
 intro G st a w hs hpre
 obtain ⟨hx, hy, _⟩ := (Aw.1 hpre.r).2
 obtain ⟨hb, hb2⟩ := J6.1 hpre.b
 have hnew := hpre.n.1
 subst hr
 obtain ⟨b2, cap2, news, hy1, hy2, hy3, hy4, hy5⟩ := hs.src (P := P) hy hS hb2
 have hlen2 : news.toList.length = rows2.length * e := by simp [hy5]
 have hdn := Qp hD hb
 have hout : ∀ (w' : World) (G' : Gh) (v : Value), G'.hd s = v → (∃ a l c, v = .slice a l c) → HH P w' G' v (.e (.one (.own s))) ∧ ∀ b, b ∈ (D.e (.one (.own s))).names → ((BW st.bx ((s, .vec e (rows ++ rows2)) :: Kc gn)) b).isSome = true := by
  intro w' G' v h1 h2
  refine ⟨⟨h1.symm, h2⟩, fun b hb => ?_⟩
  simp [D.names, E.names, C.names] at hb
  subst hb; simp [BW]
 have hrun : ∀ (v : Value) (w' : World), (Builtin.append_ #[t, t2] o.type #[a.eval x, a.eval y]).run P w = .ok v w' → (execOp a.eval o).run P w = .ok (.value v) w' := by
  intro v w' h
  simp only [execOp, hop]
  refine Hj fun cs => ?_
  simp only [List.map_toArray, List.map_cons, List.map_nil, builtin]
  exact As h rfl
 rcases hs.dst hx hD hb with ⟨a0, hx1, hrows⟩ | ⟨b, β, cap, arr, el', hgn, hbb, hβ, hx1, hx2, hx3, hx4, hx5⟩
 ·subst hrows
  obtain ⟨olds, k1, k2, k3⟩ := F2 (P := P) (w := w) (a := a0) (len := 0) (cap := 0) (e := e) (S := G.S)
  rcases IU (ty := o.type) (a := a0) (n := 0) (cap := 0) ht ht2 he hby hbs hz hzs hy1 k1 hy3 (by simpa using hlim) (Nat.le_refl _) with ⟨hfit, hrun1⟩ | ⟨hfit, c, rest, hc1, hrun1, hrest⟩
  ·have hr0 : rows2 = [] := List.eq_nil_of_length_eq_zero (by omega)
   subst hr0
   have hn0 : news.toList = [] := List.eq_nil_of_length_eq_zero (by simpa using hlen2)
   have hrun2 := hrun1 w (fun p _ => by rw [hn0]; rfl) (fun _ => rfl)
   rw [← hx1] at hrun2
   refine ⟨_, w, G.set s none (.slice a0 0 0), hrun _ _ hrun2, ?_, ?_⟩
   ·exact hs.newVec (hs.nl hn) hnew hdn (fun β h => by cases h) (fun γ _ _ => rfl) (Nat.le_refl _) hs.below (.inl ⟨a0, by simp [Gh.set], rfl, by simp [Gh.set]⟩)
   ·rintro d' ⟨⟩
    exact hout _ _ _ (by simp [Gh.set]) ⟨_, _, _, rfl⟩
  ·rw [← hx1] at hrun1
   have hsz : (w.drew.alloc (.cells (olds ++ news ++ rest) el)).heap.size = w.heap.size + 1 := by show (w.heap.push _).size = _; simp
   have hheap : ∀ γ, γ < w.heap.size → (w.drew.alloc (.cells (olds ++ news ++ rest) el)).heap[γ]? = w.heap[γ]? := fun γ hγ => by rw [ER, if_neg (by rw [IB]; omega)]; rfl
   have hat : (w.drew.alloc (.cells (olds ++ news ++ rest) el)).heap[w.heap.size]? = some (.cells (olds ++ news ++ rest) el) := by rw [ER, IB, if_pos rfl]
   refine ⟨_, _, G.set s (some w.heap.size) (.slice (some ⟨w.heap.size, 0, none⟩) rows2.length c), hrun _ _ (by rw [Nat.zero_add] at hrun1; exact hrun1), ?_, ?_⟩
   ·refine hs.newVec (hs.nl hn) hnew hdn ?_ (fun γ h1 _ => hheap γ h1) (by omega) ?_ ?_
    ·rintro β ⟨⟩
     exact ⟨hs.below.size, by omega, fun h => Nat.lt_irrefl _ (hs.S_lt _ h), fun b k hk hr hb => absurd (hs.at_ok b k _ hk hr hb).2.1 (Nat.lt_irrefl _)⟩
    ·exact (hs.below.drew).alloc (by rw [IB]; exact hs.below.size) _
    ·have hap := I0 (off := 0) (f := fun j => AF (olds ++ news ++ rest) j) k2 hy4 (fun j hj => by simp at hj) (fun j hj => by
       simp only [List.length_nil, Nat.zero_mul, Nat.zero_add]
       rw [D1 (by simp [k3]; omega), Il (by omega), k3, Nat.sub_zero])
     refine .inr ⟨w.heap.size, c, _, el, by simp [Gh.set], by simp [Gh.set], hat, by simpa using hc1, ?_, hap.1, fun i row j t hi hj => (hap.2 i row j t hi hj).mono (fun γ hγ => hheap γ (hs.S_lt γ hγ)) fun _ h => h⟩
     simp only [Array.size_append, k3, hy5, hrest, Nat.zero_add]
     rw [← Nat.add_mul]; congr 1; omega
   ·rintro d' ⟨⟩
    exact hout _ _ _ (by simp [Gh.set]) ⟨_, _, _, rfl⟩
 ·obtain ⟨olds, k1, k2, k3⟩ := Ht (P := P) (len := rows.length) (cap := cap) hx2 hx5
  have hatb := hs.at_ok b _ β hbb rfl (.inl hβ)
  rcases IU (ty := o.type) (a := some ⟨β, 0, none⟩) (n := rows.length) (cap := cap) ht ht2 he hby hbs hz hzs hy1 k1 hy3 hlim hx3 with ⟨hfit, hrun1⟩ | ⟨hfit, c, rest, hc1, hrun1, hrest⟩
  ·have hbnd : rows.length * e + rows2.length * e ≤ arr.size := by rw [hx4, ← Nat.add_mul]; exact Nat.mul_le_mul_right e hfit
   have hst := Gr (P := P) (β := β) (el := el') news.toList w (rows.length * e) 0 arr hx2 (by rw [hlen2]; omega) (Ez.ones hy4 hy5)
   rw [Nat.add_zero] at hst
   have hrun2 := hrun1 _ (fun p hp => by cases hp; rw [Addr.add_mk, Nat.zero_add]; exact hst) (fun h => by cases h)
   rw [← hx1] at hrun2
   have hheap : ∀ γ, γ ≠ β → (Hm w β (.cells (Hf arr (rows.length * e) news.toList) el' (0, 0))).heap[γ]? = w.heap[γ]? := fun γ hγ => by rw [E0, if_neg (fun h => hγ h.1)]
   have hszw : (Hm w β (.cells (Hf arr (rows.length * e) news.toList) el' (0, 0))).heap.size = w.heap.size := by simp [Hm]
   have hov : ∀ j, AF (Hf arr (rows.length * e) news.toList) j = if rows.length * e ≤ j ∧ j < rows.length * e + rows2.length * e then AF news (j - rows.length * e) else AF arr j := fun j => by
    rw [Gq _ _ _ _ (by rw [hlen2]; exact hbnd), hlen2, GU]
   refine ⟨_, _, G.set s (some β) (.slice (some ⟨β, 0, none⟩) (rows.length + rows2.length) cap), hrun _ _ hrun2, ?_, ?_⟩
   ·refine hs.newVec (hs.nl hn) hnew hdn ?_ (fun γ _ h2 => hheap γ fun e => h2 (by rw [e])) (by omega) (M6 hs.below hatb.1.2 _) ?_
    ·rintro β' ⟨⟩
     exact ⟨hatb.1.1 (by subst hgn; simpa using hle), by omega, hatb.2.2, fun c k hk hr hc => by rw [hs.at_inj c b k _ _ hk hbb hr rfl hc (.inl hβ), hgn]; simp⟩
    ·have hap := I0 (off := 0) (f := fun j => AF (Hf arr (rows.length * e) news.toList) j) hx5 hy4 (fun j hj => by rw [hov, if_neg (by omega)]) (fun j hj => by rw [hov, if_pos (by omega), Nat.add_sub_cancel_left])
     exact .inr ⟨β, cap, _, el', by simp [Gh.set], by simp [Gh.set], by rw [E0, if_pos ⟨rfl, hatb.2.1⟩], by simpa using hfit, by rw [HT, hx4], hap.1, fun i row j t hi hj => (hap.2 i row j t hi hj).mono (fun γ hγ => hheap γ fun e => hatb.2.2 (e ▸ hγ)) fun _ h => h⟩
   ·rintro d' ⟨⟩
    exact hout _ _ _ (by simp [Gh.set]) ⟨_, _, _, rfl⟩
  ·rw [← hx1] at hrun1
   have hsz : (w.drew.alloc (.cells (olds ++ news ++ rest) el)).heap.size = w.heap.size + 1 := by show (w.heap.push _).size = _; simp
   have hheap : ∀ γ, γ < w.heap.size → (w.drew.alloc (.cells (olds ++ news ++ rest) el)).heap[γ]? = w.heap[γ]? := fun γ hγ => by rw [ER, if_neg (by rw [IB]; omega)]; rfl
   have hat : (w.drew.alloc (.cells (olds ++ news ++ rest) el)).heap[w.heap.size]? = some (.cells (olds ++ news ++ rest) el) := by rw [ER, IB, if_pos rfl]
   refine ⟨_, _, G.set s (some w.heap.size) (.slice (some ⟨w.heap.size, 0, none⟩) (rows.length + rows2.length) c), hrun _ _ hrun1, ?_, ?_⟩
   ·refine hs.newVec (hs.nl hn) hnew hdn ?_ (fun γ h1 _ => hheap γ h1) (by omega) ?_ ?_
    ·rintro β' ⟨⟩
     exact ⟨hs.below.size, by omega, fun h => Nat.lt_irrefl _ (hs.S_lt _ h), fun b k hk hr hb => absurd (hs.at_ok b k _ hk hr hb).2.1 (Nat.lt_irrefl _)⟩
    ·exact (hs.below.drew).alloc (by rw [IB]; exact hs.below.size) _
    ·have hap := I0 (off := 0) (f := fun j => AF (olds ++ news ++ rest) j) k2 hy4 (fun j hj => by
       rw [D1 (by simp [k3]; omega), D1 (by omega)]) (fun j hj => by
       rw [D1 (by simp [k3, hy5]; omega), Il (by omega), k3, Nat.add_sub_cancel_left])
     refine .inr ⟨w.heap.size, c, _, el, by simp [Gh.set], by simp [Gh.set], hat, by simpa using hc1, ?_, hap.1, fun i row j t hi hj => (hap.2 i row j t hi hj).mono (fun γ hγ => hheap γ (hs.S_lt γ hγ)) fun _ h => h⟩
     simp only [Array.size_append, k3, hy5, hrest]
     rw [← Nat.add_mul, ← Nat.add_mul]; congr 1; omega
   ·rintro d' ⟨⟩
    exact hout _ _ _ (by simp [Gh.set]) ⟨_, _, _, rfl⟩
end run
end Go.Lift

/- The rules of make, of a slice cut out of a slice, of a length of a string. No condition. -/
namespace Go.Lift
open Go.RowKit
variable {P : Program} {X : JY} {ops : Array Oper}
theorem OE {n : Int} (h0 : 0 ≤ n) (h1 : n ≤ Gf) : IntKind.i64.wrap n = n := by
 have h2 : (Gf : Int) = 4294967296 := by simp [Gf]
 unfold IntKind.wrap
 simp only [IntKind.bits, IntKind.signed]
 have h3 : n % (2 ^ 64 : Int) = n := Int.emod_eq_of_lt h0 (by omega)
 simp only [h3]
 rw [if_neg]
 simp
 omega
section run
variable {dr : Bool} {Q : St → Prop} {r i : Nat} {st : St} {log : List (Nat × DK)} {o : Oper} {gs : List (Operand × D)}
theorem Nj {t el e bytes : Nat} {w : World} {z : Value} {k k' : IntKind} {l c : Int} (ht : sliceB P t el = true) (he : HR P el e = true) (hby : F7 P el bytes = true) (hbs : bytes ≤ 4096) (hz : ES P el = some z) (h0 : 0 ≤ l) (hlc : l ≤ c) (hc : c ≤ Gf) :
  ∃ arr, (Instr.makeSlice t (.int k l) (.int k' c)).run P w = .ok (.slice (some ⟨w.heap.size, 0, none⟩) l.toNat c.toNat) (w.alloc (.cells arr el)) ∧ arr.size = c.toNat * e ∧
   ∀ i j, i < c.toNat → j < e → z.cells.size = e → AF arr (i * e + j) = AF z.cells j := by
 unfold sliceB at ht
 split at ht
 ·rename_i e' hu
  have : e' = el := by simpa using ht
  subst this
  unfold F7 at hby
  split at hby
  ·rename_i inf hinf
   have hbytes : inf.bytes = bytes := by simpa using hby
   have hl : IntKind.i64.wrap l = l := OE h0 (by omega)
   have hc' : IntKind.i64.wrap c = c := OE (by omega) hc
   have hlim : (Gf : Int) = 4294967296 := by simp [Gf]
   have hb : (inf.bytes : Int) * c ≤ 17592186044416 := by
    have h1 : inf.bytes * c.toNat ≤ 4096 * 4294967296 := Nat.mul_le_mul (by omega) (by omega)
    have h2 : ((inf.bytes * c.toNat : Nat) : Int) = (inf.bytes : Int) * c := by rw [Int.natCast_mul, Int.toNat_of_nonneg (by omega)]
    omega
   refine ⟨(Array.range (c.toNat * e)).map (fun k => (if c.toNat * e = 0 then (#[] : Array Value) else z.cells)[k % (if c.toNat * e = 0 then (#[] : Array Value) else z.cells).size]!), ?_, by simp, ?_⟩
   ·unfold Instr.makeSlice
    refine As (AX hu w) ?_
    refine As (a := l) (w1 := w) rfl ?_
    refine As (a := c) (w1 := w) rfl ?_
    refine As (Ix hinf w) ?_
    simp only [hl, hc']
    have hcond : (((decide (c < 0) || decide ((inf.bytes : Int) * c > 2 ^ 48)) || decide (l < 0)) || decide (l > c)) = false := by
     simp; omega
    rw [hcond]
    simp only [Bool.false_eq_true, if_false]
    refine As (run_askRoom P w _) ?_
    refine As (Fv he w) ?_
    by_cases hne : c.toNat * e = 0
    ·simp only [hne, if_true]
     rfl
    ·simp only [hne, if_false]
     refine As (F5 hz w) ?_
     rfl
   ·intro i j hi hj hzs
    have hne : ¬ c.toNat * e = 0 := by
     intro h
     rcases Nat.mul_eq_zero.1 h with h | h <;> omega
    simp only [hne, if_false]
    have hle : i * e + e ≤ c.toNat * e := by rw [← Nat.succ_mul]; exact Nat.mul_le_mul_right e hi
    have hlt : i * e + j < c.toNat * e := by omega
    have hmod : (i * e + j) % e = j := by rw [Nat.mul_comm, Nat.mul_add_mod]; exact Nat.mod_eq_of_lt hj
    unfold AF
    simp [hlt, hzs, hmod, hj]
  ·cases hby
 ·cases ht
theorem LY {x y : Operand} {t el s e bytes : Nat} {z : Value} {zs : List Value} {rows : List (List T)} {k k' : IntKind} {l c : Int} (hat : At st.env ops i X.n (.makeSlice t x y) s gs)
  (hx : opd st.env x = some (vD (.int k l))) (hy : opd st.env y = some (vD (.int k' c))) (hnew : st.bx s = none) (ht : sliceB P t el = true) (he : HR P el e = true) (hby : F7 P el bytes = true) (hbs : bytes ≤ 4096) (hz : ES P el = some z) (hzs : z.cells.toList = zs) (hze : zs.length = e) (h1 : zs.all HA = true) (h0 : 0 ≤ l) (hlc : l ≤ c) (hc : c ≤ Gf) (hrows : List.replicate l.toNat (zs.map fun v => (T.of v).nrm) = rows)
  (next : BA P X ops dr Q r (i + 1) (DK.upd ⟨gs ++ [(x, vD (.int k l)), (y, vD (.int k' c))], [], some s, some (.e (.one (.own s))), [(s, .vec e rows)], [s]⟩ st) ((i, ⟨gs ++ [(x, vD (.int k l)), (y, vD (.int k' c))], [], some s, some (.e (.one (.own s))), [(s, .vec e rows)], [s]⟩) :: log)) : BA P X ops dr Q (r + 1) i st log := by
 subst hrows
 obtain ⟨o, ho, hop, hd, hn, hg, hgp⟩ := hat.out
 refine BA.step next ⟨Aw.2 ⟨hgp, hx, hy, trivial⟩, trivial, hnew, trivial⟩ (LR.value ho hg rfl hd.symm (Ec hd hn) ?_)
 intro G st a w hs hpre
 obtain ⟨hx, hy, _⟩ := (Aw.1 hpre.r).2
 have hnew := hpre.n.1
 have hX : a.eval x = .int k l := Fw (hs.opd hx : EK w G.S (a.eval x) (.val _))
 have hY : a.eval y = .int k' c := Fw (hs.opd hy : EK w G.S (a.eval y) (.val _))
 obtain ⟨arr, r1, r2, r3⟩ := Nj (P := P) (w := w) (k := k) (k' := k') ht he hby hbs hz h0 hlc hc
 have hrow : ∀ (i : Nat) (row : List T), (List.replicate l.toNat (zs.map fun v => (T.of v).nrm))[i]? = some row → i < l.toNat ∧ row = zs.map fun v => (T.of v).nrm := fun i row hi => by
  have hlt := AV hi
  simp only [List.length_replicate] at hlt
  rw [List.getElem?_replicate, if_pos hlt] at hi
  exact ⟨hlt, by simpa using hi.symm⟩
 have key := hs.newB (.cells arr el) s (.vec e (List.replicate l.toNat (zs.map fun v => (T.of v).nrm))) (.slice (some ⟨w.heap.size, 0, none⟩) l.toNat c.toNat) (hs.nl hn) hnew
  (.inr ⟨w.heap.size, c.toNat, arr, el, by simp [Gh.set], by simp [Gh.set], by rw [ER, if_pos rfl], by simp; omega, r2, fun i row hi => by rw [(hrow i row hi).2]; simpa using hze, fun i row j t hi hj => by
   obtain ⟨h2, h3⟩ := hrow i row hi
   subst h3
   have hj' := AV hj
   simp only [List.length_map] at hj'
   rw [r3 i j (by omega) (by omega) (by rw [← hze, ← hzs]; simp)]
   have hzj : z.cells.toList[j]? = some (zs[j]) := by rw [hzs]; simp [hj']
   have : t = (T.of zs[j]).nrm := by simpa [hj'] using hj.symm
   subst this
   have hc2 : AF z.cells j = zs[j] := by
    have : z.cells[j]? = some zs[j] := by simpa using hzj
    simp [AF, this]
   rw [hc2]
   exact (EK.of (List.all_eq_true.1 h1 _ (List.getElem_mem hj'))).nrm⟩)
  (fun c hc => by cases hc)
 refine ⟨.slice (some ⟨w.heap.size, 0, none⟩) l.toNat c.toNat, _, _, ?_, key, ?_⟩
 ·simp only [execOp, hop, hX, hY]
  exact As r1 rfl
 ·rintro d ⟨⟩
  refine ⟨⟨by simp [Gh.set], _, _, _, rfl⟩, fun b hb => ?_⟩
  simp [D.names, E.names, C.names] at hb
  subst hb; simp [BW]
inductive R8 : Option Operand → Nat → Nat → List (Operand × D) → Prop where
 | none (d : Nat) : R8 none d d []
 | some (y : Operand) (d : Nat) (k : IntKind) (v : Int) (h : 0 ≤ v) : R8 (some y) d v.toNat [(y, vD (.int k v))]
theorem J5 {k : IntKind} {v : Int} {y : Nat} {code : BoundsCode} (h : 0 ≤ v) (h2 : v.toNat ≤ y) (w : World) : (Instr.sliceBound (.int k v) y code).run P w = .ok v.toNat w := by
 unfold Instr.sliceBound
 refine As (a := (k, v)) (w1 := w) rfl ?_
 have : 0 ≤ v ∧ v ≤ (y : Int) := ⟨h, by omega⟩
 simp only [this, and_self, if_true]; rfl
theorem Mn {G : Gh} {st : St} {a : Act} {w : World} (hs : Eg P X G st a w) {lo hi : Option Operand} {l h len cap : Nat} {rl rh : List (Operand × D)} (hlo : R8 lo 0 l rl) (hhi : R8 hi len h rh) (h1 : GC st.env rl) (h2 : GC st.env rh) (hlh : l ≤ h) (hhc : h ≤ cap) :
  (Instr.sliceBounds true len cap (lo.map a.eval) (hi.map a.eval) none).run P w = .ok (l, h, cap) w := by
 unfold Instr.sliceBounds
 refine As (a := cap) (w1 := w) rfl ?_
 have low : ∀ (h : Nat), l ≤ h → ((match lo.map a.eval with
      | some v => do
       let l ← Instr.sliceBound v h (if (none : Option Value).isSome = true then BoundsCode.slice3C else BoundsCode.sliceB)
       pure (l, h, cap)
      | none => do
       let l ← pure 0
       pure (l, h, cap) : Sem (Nat × Nat × Nat))).run P w = .ok (l, h, cap) w := fun h hlh => by
  cases hlo with
  | none => rfl
  | some y d k v hv =>
   have : a.eval y = .int k v := Fw (hs.opd h1.1 : EK w G.S (a.eval y) (.val _))
   simp only [Option.map_some, this]
   exact As (J5 hv hlh w) rfl
 cases hhi with
 | none => exact As (w1 := w) rfl (low _ hlh)
 | some y d k v hv =>
  have : a.eval y = .int k v := Fw (hs.opd h2.1 : EK w G.S (a.eval y) (.val _))
  simp only [Option.map_some, this]
  exact As (J5 hv hhc w) (low _ hlh)
theorem O2 {t el e : Nat} {G : Gh} {st : St} {a : Act} {w : World} (hs : Eg P X G st a w) {lo hi : Option Operand} {l h len cap : Nat} {rl rh : List (Operand × D)} {p : Option Addr} (ht : sliceB P t el = true) (he : HR P el e = true) (hlo : R8 lo 0 l rl) (hhi : R8 hi len h rh) (h1 : GC st.env rl) (h2 : GC st.env rh) (hlh : l ≤ h) (hhc : h ≤ cap) :
  (Instr.sliceAt t (.slice p len cap) (lo.map a.eval) (hi.map a.eval) none).run P w = .ok (.slice (if cap = l then p else p.map (·.add (l * e))) (h - l) (cap - l)) w := by
 unfold sliceB at ht
 split at ht
 ·rename_i e' hu
  have : e' = el := by simpa using ht
  subst this
  unfold Instr.sliceAt
  refine As (AX hu w) ?_
  unfold Instr.slice
  refine As (AX hu w) ?_
  refine As (Mn hs hlo hhi h1 h2 hlh hhc) ?_
  refine As (Fv he w) ?_
  rfl
 ·cases ht
end run
end Go.Lift

/- Calls by contract, the rules of statements, and how a contract is proved. No condition. -/
namespace Go.Lift
open Go.RowKit
variable {P : Program} {X : JY} {ops : Array Oper}
def G0 (S : Nat → Prop) : Gh := { S := S, loc := fun _ => none, hd := fun _ => undef, more := fun _ _ => False }
def AA (P : Program) (f : FuncId) (args : List D) (rv : List (Nat × List (List T))) (res : D) : Prop :=
 ∀ (w : World) (S : Nat → Prop) (vs : Array Value), (∀ β, S β → β < w.heap.size) → vs.size = args.length → (∀ (j : Nat) (d : D), args[j]? = some d → HH P w (G0 S) (AF vs j) d) →
  Calls P f vs w fun e w' => ∃ v G', e = .returned v ∧ Below w.heap.size w w' ∧ (∀ β, S β → G'.S β) ∧ (∀ β, G'.S β → S β ∨ (w.heap.size ≤ β ∧ β < w'.heap.size)) ∧ HH P w' G' v res ∧
   (∀ (k : Nat) (x : Nat × List (List T)), rv[k]? = some x → Gj P w' G' k (.vec x.1 x.2)) ∧
   (∀ k β, k < rv.length → G'.has k β → w.heap.size ≤ β ∧ β < w'.heap.size ∧ ¬ G'.S β) ∧
   (∀ k l β, k < rv.length → l < rv.length → G'.has k β → G'.has l β → k = l)
def C.ren (f : Nat → Nat) : C → C
 | .own b => .own (f b)
 | .ptr b k => .ptr (f b) k
 | .eptr b e i k => .eptr (f b) e i k
 | .view b e lo len => .view (f b) e lo len
 | .mref b => .mref (f b)
 | c => c
def E.ren (f : Nat → Nat) : E → E
 | .one c => .one (c.ren f)
 | .agg cs => .agg (cs.map (C.ren f))
def D.ren (f : Nat → Nat) : D → D
 | .e x => .e (x.ren f)
 | .tup xs => .tup (xs.map (E.ren f))
def B5.ren (f : Nat → Nat) : B5 → B5
 | .box cs => .box (cs.map (C.ren f))
 | .hol e cols i k c rows => .hol e cols i k (f c) rows
 | k => k
structure Gh.via (G G' : Gh) (f : Nat → Nat) (p : Nat → Prop) : Prop where
 S : ∀ β, G.S β → G'.S β
 loc : ∀ b, p b → G'.loc (f b) = G.loc b
 hd : ∀ b, p b → G'.hd (f b) = G.hd b
 more : ∀ b, p b → G'.more (f b) = G.more b
theorem Gh.via.has {G G' : Gh} {f : Nat → Nat} {p : Nat → Prop} (h : G.via G' f p) {b β : Nat} (hb : p b) : G'.has (f b) β ↔ G.has b β := by
 unfold Gh.has; rw [h.loc b hb, h.more b hb]
theorem FT.ren {w : World} {G G' : Gh} {f : Nat → Nat} {p : Nat → Prop} {v : Value} {c : C} (h : FT P w G v c) (hG : G.via G' f p) (hp : ∀ b, b ∈ c.names → p b) : FT P w G' v (c.ren f) := by
 cases c with
 | pure t => exact EK.mono h (fun _ _ => rfl) hG.S
 | own b => exact ⟨by rw [hG.hd b (hp b (by simp [C.names]))]; exact h.1, h.2⟩
 | ptr b k => obtain ⟨β, h1, h2⟩ := h; exact ⟨β, by rw [hG.loc b (hp b (by simp [C.names]))]; exact h1, h2⟩
 | eptr b e i k => obtain ⟨β, h1, h2⟩ := h; exact ⟨β, by rw [hG.loc b (hp b (by simp [C.names]))]; exact h1, h2⟩
 | view b e lo len => obtain ⟨a, n, cap, p, h1, h2⟩ := h; exact ⟨a, n, cap, p, by rw [hG.hd b (hp b (by simp [C.names]))]; exact h1, h2⟩
 | mref b => obtain ⟨β, h1, h2⟩ := h; exact ⟨β, by rw [hG.loc b (hp b (by simp [C.names]))]; exact h1, h2⟩
 | rop ts =>
  obtain ⟨β, off, arr, el, fz, h1, h2, h3, h4, h5⟩ := h
  exact ⟨β, off, arr, el, fz, h1, hG.S _ h2, h3, h4, fun j t hj => (h5 j t hj).mono (fun _ _ => rfl) hG.S⟩
 | clo g => exact Lg.mono h (fun _ _ => rfl) hG.S
 | any => exact h
 | nilq p => exact h
 | fnc f => exact h
theorem Jz.ren {w : World} {G G' : Gh} {f : Nat → Nat} {p : Nat → Prop} {v : Value} {x : E} (h : Jz P w G v x) (hG : G.via G' f p) (hp : ∀ b, b ∈ x.names → p b) : Jz P w G' v (x.ren f) := by
 cases x with
 | one c => exact FT.ren h hG hp
 | agg cs =>
  obtain ⟨vs, e, hs, h⟩ := h
  refine ⟨vs, e, by simp [hs], fun j c hj => ?_⟩
  rw [List.getElem?_map] at hj
  cases hx : cs[j]? with
  | none => rw [hx] at hj; cases hj
  | some c0 =>
   rw [hx] at hj; cases hj
   exact (h j c0 hx).ren hG fun b hb => hp b (Bq.2 ⟨c0, List.mem_of_getElem? hx, hb⟩)
theorem HH.ren {w : World} {G G' : Gh} {f : Nat → Nat} {p : Nat → Prop} {v : Value} {d : D} (h : HH P w G v d) (hG : G.via G' f p) (hp : ∀ b, b ∈ d.names → p b) : HH P w G' v (d.ren f) := by
 cases d with
 | e x => exact Jz.ren h hG hp
 | tup xs =>
  obtain ⟨vs, e, hs, h⟩ := h
  refine ⟨vs, e, by simp [hs], fun j c hj => ?_⟩
  rw [List.getElem?_map] at hj
  cases hx : xs[j]? with
  | none => rw [hx] at hj; cases hj
  | some c0 =>
   rw [hx] at hj; cases hj
   exact (h j c0 hx).ren hG fun b hb => hp b (E4.2 ⟨c0, List.mem_of_getElem? hx, hb⟩)
theorem Gj.ren {w : World} {G G' : Gh} {f : Nat → Nat} {p : Nat → Prop} {b : Nat} {k : B5} (h : Gj P w G b k) (hG : G.via G' f p) (hb : p b) (hp : ∀ c, c ∈ k.names → p c) : Gj P w G' (f b) (k.ren f) := by
 cases k with
 | box cells =>
  obtain ⟨β, arr, el, h1, h2, h3, h4⟩ := h
  refine ⟨β, arr, el, by rw [hG.loc b hb]; exact h1, h2, by simp [h3], fun j c hj => ?_⟩
  rw [List.getElem?_map] at hj
  cases hx : cells[j]? with
  | none => rw [hx] at hj; cases hj
  | some c0 =>
   rw [hx] at hj; cases hj
   exact (h4 j c0 hx).ren hG fun b hb => hp b (Bq.2 ⟨c0, List.mem_of_getElem? hx, hb⟩)
 | vec e rows =>
  rcases h with ⟨a, h1, h2, h3⟩ | ⟨β, cap, arr, el, h0, h1, h2, h3, h4, h5, h6⟩
  ·exact .inl ⟨a, by rw [hG.hd b hb]; exact h1, h2, by rw [hG.loc b hb]; exact h3⟩
  ·exact .inr ⟨β, cap, arr, el, by rw [hG.loc b hb]; exact h0, by rw [hG.hd b hb]; exact h1, h2, h3, h4, h5, fun i row j t hi hj => (h6 i row j t hi hj).mono (fun _ _ => rfl) hG.S⟩
 | mp es =>
  obtain ⟨β, arr, clock, h1, h2, h3, h4⟩ := h
  exact ⟨β, arr, clock, by rw [hG.loc b hb]; exact h1, h2, h3, fun i x hi => by
   obtain ⟨m, e1, e2, e3⟩ := h4 i x hi
   exact ⟨m, e1, e2, e3.mono (fun _ _ => rfl) hG.S⟩⟩
 | dvec e cols rows =>
  rcases h with ⟨a, h1, h2, h3⟩ | ⟨β, cap, arr, el, Rf, h0, h1, h2, h3, h4, h5, h6, h7, h8, h9⟩
  ·exact .inl ⟨a, by rw [hG.hd b hb]; exact h1, h2, by rw [hG.loc b hb]; exact h3⟩
  ·exact .inr ⟨β, cap, arr, el, Rf, by rw [hG.loc b hb]; exact h0, by rw [hG.hd b hb]; exact h1, h2, h3, h4, h5, fun i row j t hi hj => (h6 i row j t hi hj).mono (fun _ _ => rfl) hG.S (fun _ h => h), fun i j γ hγ => by rw [hG.more b hb]; exact h7 i j γ hγ, h8, h9⟩
 | hol e cols i0 k0 c rows =>
  obtain ⟨β, cap, arr, el, Rf, h0, h1, h2, h3, h4, h5, h6, h7, h8, h9, h10, h11⟩ := h
  have hc := hG.hd c (hp c (by simp [B5.names]))
  exact ⟨β, cap, arr, el, Rf, by rw [hG.loc b hb]; exact h0, by rw [hG.hd b hb]; exact h1, h2, h3, h4, h5, fun i row j t hi hj hne => (h6 i row j t hi hj hne).mono (fun _ _ => rfl) hG.S (fun _ h => h), fun i j γ hγ => by rw [hG.more b hb]; exact h7 i j γ hγ, h8, h9, by rw [hc]; exact h10, by rw [hc]; exact h11⟩
 | gone => trivial
theorem HH.closed {w : World} {G : Gh} {v : Value} {d : D} (h : HH P w G v d) (hn : d.names = []) {S : Nat → Prop} (hS : ∀ β, G.S β → S β) : HH P w (G0 S) v d :=
 h.mono (p := fun _ => False) ⟨hS, fun _ h => h.elim, fun _ h => h.elim, fun _ h => h.elim⟩ (fun _ _ => rfl) (fun b hb => by rw [hn] at hb; cases hb)
theorem Kf {f : Nat → Nat} {c : C} {b : Nat} (h : b ∈ (c.ren f).names) : ∃ b0, b0 ∈ c.names ∧ b = f b0 := by
 cases c <;> simp [C.ren, C.names] at h ⊢ <;> exact h
theorem LX {f : Nat → Nat} {x : E} {b : Nat} (h : b ∈ (x.ren f).names) : ∃ b0, b0 ∈ x.names ∧ b = f b0 := by
 cases x with
 | one c => exact Kf h
 | agg cs =>
  obtain ⟨c, hc, hb⟩ := Bq.1 h
  obtain ⟨c0, h0, rfl⟩ := List.mem_map.1 hc
  obtain ⟨b0, h1, h2⟩ := Kf hb
  exact ⟨b0, Bq.2 ⟨c0, h0, h1⟩, h2⟩
theorem Kn {f : Nat → Nat} {d : D} {b : Nat} (h : b ∈ (d.ren f).names) : ∃ b0, b0 ∈ d.names ∧ b = f b0 := by
 cases d with
 | e x => exact LX h
 | tup xs =>
  obtain ⟨c, hc, hb⟩ := E4.1 h
  obtain ⟨c0, h0, rfl⟩ := List.mem_map.1 hc
  obtain ⟨b0, h1, h2⟩ := LX hb
  exact ⟨b0, E4.2 ⟨c0, h0, h1⟩, h2⟩
def nm (ns : List Nat) (k : Nat) : Nat := ns.getD k 0
def J0 : List Nat → List (Nat × List (List T)) → List (Nat × B5)
 | n :: ns, x :: xs => (n, .vec x.1 x.2) :: J0 ns xs
 | _, _ => []
theorem Lp {bx : Nat → Option B5} : ∀ {ns : List Nat} {rv : List (Nat × List (List T))} {c : Nat}, ns.length = rv.length → ns.Nodup →
  (c ∉ ns → BW bx (J0 ns rv) c = bx c) ∧ ∀ (k : Nat) (x : Nat × List (List T)), rv[k]? = some x → BW bx (J0 ns rv) (nm ns k) = some (.vec x.1 x.2)
 | [], [], c, _, _ => ⟨fun _ => rfl, fun k x h => by simp at h⟩
 | n :: ns, x :: xs, c, hl, hnd => by
  have ih := Lp (bx := bx) (ns := ns) (rv := xs) (c := c) (by simpa using hl) (List.nodup_cons.1 hnd).2
  refine ⟨fun hc => ?_, fun k y hk => ?_⟩
  ·simp only [List.mem_cons, not_or] at hc
   simp only [J0, BW]
   rw [if_neg hc.1]; exact ih.1 hc.2
  ·cases k with
   | zero => simp at hk; subst hk; simp [J0, BW, nm]
   | succ k =>
    have hk' : xs[k]? = some y := by simpa using hk
    have hlt := AV hk'
    have hlt2 : k < ns.length := by simp at hl; omega
    have : nm (n :: ns) (k + 1) = nm ns k := by simp [nm]
    rw [this]
    have hne : nm ns k ≠ n := by
     intro e
     have : nm ns k ∈ ns := by unfold nm; rw [List.getD_eq_getElem?_getD]; simp [hlt2]
     exact (List.nodup_cons.1 hnd).1 (e ▸ this)
    simp only [J0, BW]
    rw [if_neg hne]
    exact (Lp (bx := bx) (ns := ns) (rv := xs) (c := c) (by simpa using hl) (List.nodup_cons.1 hnd).2).2 k y hk'
theorem ML {ns : List Nat} {c : Nat} (h : c ∈ ns) : ∃ k, k < ns.length ∧ nm ns k = c := by
 obtain ⟨k, hk⟩ := List.mem_iff_getElem?.1 h
 exact ⟨k, AV hk, by unfold nm; rw [List.getD_eq_getElem?_getD, hk]; rfl⟩
theorem FX {ns : List Nat} {k : Nat} (h : k < ns.length) : nm ns k ∈ ns := by
 unfold nm; rw [List.getD_eq_getElem?_getD]; simp [h]
theorem N6 {ns : List Nat} (hnd : ns.Nodup) {j k : Nat} (hj : j < ns.length) (hk : k < ns.length) (h : nm ns j = nm ns k) : j = k := by
 unfold nm at h
 rw [List.getD_eq_getElem?_getD, List.getD_eq_getElem?_getD] at h
 simp only [hj, hk, List.getElem?_eq_getElem, Option.getD_some] at h
 rcases Nat.lt_trichotomy j k with h1 | h1 | h1
 ·exact absurd h (List.pairwise_iff_getElem.1 hnd j k hj hk h1)
 ·exact h1
 ·exact absurd h.symm (List.pairwise_iff_getElem.1 hnd k j hk hj h1)
def AE (P : Program) (f : FuncId) : Bool := match P.funcs[f]? with | some fn => !(fn.name == "runtime.NumGoroutine") && fn.body.isSome | none => false
theorem Li {f : FuncId} (h : AE P f = true) (args : Array Value) (w : World) : (callFunc f args).run P w = .ok (.enter f args) w := by
 unfold AE at h
 split at h
 ·rename_i fn hf
  simp only [Bool.and_eq_true, Bool.not_eq_true'] at h
  obtain ⟨h1, h2⟩ := h
  have h3 : ¬ fn.body = none := by cases hb : fn.body <;> simp_all
  have h4 : ¬ fn.name = "runtime.NumGoroutine" := by simpa using h1
  simp [callFunc, program, Sem.run, hf]
  rw [if_neg h4, if_neg h3]
 ·cases h
theorem IW {f : FuncId} (h : AE P f = true) {xs : Array Operand} {ts : Array TypeId} {ρ : Operand → Value} {ty : TypeId} {w : World} (hρ : ρ (.func f) = .func (.func f) #[] #[]) :
  (do let d ← resolve ρ ⟨.value (.func f), xs, ts⟩ ty; invoke d.target d.args : Sem Next).run P w = .ok (.enter f (xs.map ρ)) w := by
 simp only [resolve, hρ, Deferred.ofValue]
 refine As (a := { target := .fn (.func f) #[], args := #[] ++ xs.map ρ }) (w1 := w) rfl ?_
 simp only [invoke]
 rw [Li h]; simp
def JA : List Operand → List D → List (Operand × D)
 | x :: xs, d :: ds => (x, d) :: JA xs ds
 | _, _ => []
theorem JE {env : Nat → Option D} : ∀ {xs : List Operand} {ds : List D}, xs.length = ds.length → GC env (JA xs ds) → ∀ (j : Nat) (x : Operand) (d : D), xs[j]? = some x → ds[j]? = some d → opd env x = some d
 | x :: xs, d :: ds, _, h, 0, y, e, hx, hd => by simp at hx hd; subst hx; subst hd; exact h.1
 | x :: xs, d :: ds, hl, h, j + 1, y, e, hx, hd => JE (by simpa using hl) h.2 j y e (by simpa using hx) (by simpa using hd)
def MS (ns : List Nat) : Prop := ns.Nodup ∧ ∀ c, c ∈ ns → Cx c = false
def Jc : List Nat → Bool
 | [] => true
 | x :: xs => !xs.contains x && Jc xs
theorem Jb : ∀ {l : List Nat}, Jc l = true → l.Nodup
 | [], _ => List.nodup_nil
 | x :: xs, h => by
  simp only [Jc, Bool.and_eq_true, Bool.not_eq_true'] at h
  refine List.nodup_cons.2 ⟨?_, Jb h.2⟩
  intro hm
  have : xs.contains x = true := by simpa using hm
  rw [this] at h; cases h.1
theorem AM {l : List Nat} (h : (Jc l && l.all fun c => !Cx c) = true) : MS l := by
 rw [Bool.and_eq_true, List.all_eq_true] at h
 exact ⟨Jb h.1, fun c hc => by simpa using h.2 c hc⟩
def R3 (d : D) : Bool := d.names.isEmpty
section run
variable {dr : Bool} {Q : St → Prop} {r i : Nat} {st : St} {log : List (Nat × DK)} {o : Oper} {gs : List (Operand × D)}
theorem TQ {f s : Nat} {xs : List Operand} {ds0 ds : List D} {rv : List (Nat × List (List T))} {res : D} {ts : Array TypeId} (ns : List Nat) (hc : AA P f ds rv res) (hat : At st.env ops i X.n (.call ⟨.value (.func f), xs.toArray, ts⟩) s gs)
  (hf : AE P f = true) (hl : xs.length = ds0.length) (hx : GC st.env (JA xs ds0)) (hds : ds0.map D.nrm = ds) (hpub : ds.all R3 = true) (hns : ns.length = rv.length) (hndl : MS ns) (hnew : M8 st.bx ns) (hres : res.names.all (fun b => decide (b < rv.length)) = true)
  (next : BA P X ops dr Q r (i + 1) (DK.upd ⟨gs ++ JA xs ds0, [], some s, some (res.ren (nm ns)), J0 ns rv, ns⟩ st) ((i, ⟨gs ++ JA xs ds0, [], some s, some (res.ren (nm ns)), J0 ns rv, ns⟩) :: log)) : BA P X ops dr Q (r + 1) i st log := by
 obtain ⟨o, ho, hop, hd, hn, hg, hgp⟩ := hat.out
 have hnd := hndl.1
 subst hds
 refine BA.step next ⟨Aw.2 ⟨hgp, hx⟩, trivial, hnew⟩ ?_
 intro st a w K Q' hs hpre hK
 obtain ⟨G, hs⟩ := hs
 have hx := (Aw.1 hpre.r).2
 have hw := hs.wanted hg (Aw.1 hpre.r).1
 have hnew := hpre.n
 have hnew' : ∀ c, c ∈ ns → st.bx c = none := by
  have : ∀ {l : List Nat}, M8 st.bx l → ∀ c, c ∈ l → st.bx c = none := by
   intro l
   induction l with
   | nil => intro _ c hc; cases hc
   | cons b l ih =>
    intro h c hc
    rcases List.mem_cons.1 hc with e | e
    ·subst e; exact h.1
    ·exact ih h.2 c e
  exact this hnew
 unfold wpOp
 rw [ho]
 simp only [hw, if_true]
 refine .inl ?_
 unfold Oper.wp
 have hrun : (execOp a.eval o).run P w = .ok (.enter f (xs.toArray.map a.eval)) w := by
  simp only [execOp, hop]
  exact IW hf rfl
 rw [hrun]
 show Calls P f (xs.toArray.map a.eval) w _
 refine (hc w G.S (xs.toArray.map a.eval) hs.S_lt (by simpa using hl) ?_).mono ?_
 ·intro j d hj
  obtain ⟨d0, hj0, rfl⟩ : ∃ d0, ds0[j]? = some d0 ∧ d0.nrm = d := by
   rw [List.getElem?_map] at hj
   cases hx0 : ds0[j]? with
   | none => rw [hx0] at hj; cases hj
   | some d0 => rw [hx0] at hj; cases hj; exact ⟨d0, rfl, rfl⟩
  have hlt := AV hj0
  have hxj : xs[j]? = some (xs[j]'(by omega)) := by simp [show j < xs.length from by omega]
  have hop' := JE hl hx j _ d0 hxj hj0
  have hcell : AF (xs.toArray.map a.eval) j = a.eval (xs[j]'(by omega)) := by simp [AF, show j < xs.length from by omega]
  rw [hcell]
  refine ((hs.opd hop').nrm).closed ?_ (fun _ h => h)
  have := List.all_eq_true.1 hpub _ (List.mem_of_getElem? hj)
  simpa [R3] using this
 ·rintro e w' ⟨v, G', rfl, hbel, hS1, hS2, hres', hvec, hvat, hvinj⟩
  show K (a.put o.dst v) w'
  rw [hd]
  -- the ghost of the caller
  let G2 : Gh := { S := fun β => G'.S β ∧ True, loc := fun c => if c ∈ ns then G'.loc (ns.idxOf c) else G.loc c, hd := fun c => if c ∈ ns then G'.hd (ns.idxOf c) else G.hd c, more := fun c => if c ∈ ns then G'.more (ns.idxOf c) else G.more c }
  have hidx : ∀ k, k < ns.length → ns.idxOf (nm ns k) = k := by
   intro k hk
   have hm := FX hk
   have h1 : ns.idxOf (nm ns k) < ns.length := List.idxOf_lt_length_of_mem hm
   refine N6 hnd h1 hk ?_
   have h2 := List.getElem_idxOf h1
   show ns.getD (ns.idxOf (nm ns k)) 0 = nm ns k
   rw [List.getD_eq_getElem?_getD, List.getElem?_eq_getElem h1, Option.getD_some, h2]
  have hvia : G'.via G2 (nm ns) (fun b => b < ns.length) := ⟨fun β h => ⟨h, trivial⟩, fun b hb => by simp only [G2]; rw [if_pos (FX hb), hidx b hb], fun b hb => by simp only [G2]; rw [if_pos (FX hb), hidx b hb], fun b hb => by simp only [G2]; rw [if_pos (FX hb), hidx b hb]⟩
  have hext : G.ext G2 (fun b => (st.bx b).isSome = true) := by
   have : ∀ b, (st.bx b).isSome = true → b ∉ ns := fun b hb hm => by rw [hnew' b hm] at hb; cases hb
   exact ⟨fun β h => ⟨hS1 β h, trivial⟩, fun b hb => by simp only [G2]; rw [if_neg (this b hb)], fun b hb => by simp only [G2]; rw [if_neg (this b hb)], fun b hb => by simp only [G2]; rw [if_neg (this b hb)]⟩
  have hwS : ∀ β, G.S β → w'.heap[β]? = w.heap[β]? := fun β hβ => hbel.block β (hs.S_lt β hβ)
  have hsz := hbel.size
  have hle := hs.below.size
  have hS3 : ∀ β, G2.S β → G.S β ∨ (w.heap.size ≤ β ∧ β < w'.heap.size) := fun β h => hS2 β h.1
  have hvg := fun c => Lp (bx := st.bx) (ns := ns) (rv := rv) (c := c) hns hnd
  have hblk : ∀ c k, BW st.bx (J0 ns rv) c = some k → (c ∉ ns ∧ st.bx c = some k) ∨ (∃ m x, m < ns.length ∧ nm ns m = c ∧ rv[m]? = some x ∧ k = .vec x.1 x.2) := by
   intro c k hc
   by_cases hm : c ∈ ns
   ·obtain ⟨m, hm1, hm2⟩ := ML hm
    have hrx : rv[m]? = some (rv[m]'(by omega)) := by simp [show m < rv.length from by omega]
    have := (hvg c).2 m _ hrx
    rw [hm2, hc] at this
    exact .inr ⟨m, _, hm1, hm2, hrx, by simpa using this⟩
   ·rw [(hvg c).1 hm] at hc; exact .inl ⟨hm, hc⟩
  have key : Eg P X G2 ⟨st.env, BW st.bx (J0 ns rv)⟩ a w' := by
   refine hs.frame ?_ hext hwS ?_ ?_ ?_ ?_ ?_ (hs.below.trans (.of (hbel.mono hle))) (fun b hb => by
    have : b ∉ ns := fun hm => by rw [hndl.2 b hm] at hb; cases hb
    simp only [G2]; rw [if_neg this, if_neg this, if_neg this]; exact ⟨rfl, rfl, rfl⟩)
   ·intro c hc
    have hm : c ∉ ns := fun hm => by rw [hnew' c hm] at hc; cases hc
    rw [(hvg c).1 hm]; exact hc
   ·intro c k hc
    rcases hblk c k hc with ⟨_, h1⟩ | ⟨m, x, h1, h2, h3, h4⟩
    ·exact .inl ⟨h1, fun β hr hβ => hbel.block β (hs.at_ok c k β h1 hr hβ).2.1⟩
    ·subst h4
     refine .inr ⟨?_, fun c hc => by cases hc⟩
     rw [← h2]
     exact (hvec m x h3).ren hvia h1 (fun c hc => by cases hc)
   ·intro c k β hc hr hβ
    rcases hblk c k hc with ⟨h0, h1⟩ | ⟨m, x, h1, h2, h3, h4⟩
    ·have hβ := (hext.has (by rw [h1]; rfl)).1 hβ
     have := hs.at_ok c k β h1 hr hβ
     refine ⟨this.1, by omega, fun h => ?_⟩
     rcases hS3 β h with h | h
     ·exact this.2.2 h
     ·omega
    ·rw [← h2, hvia.has h1] at hβ
     have := hvat m β (by omega) hβ
     exact ⟨.new (by omega), this.2.1, fun h => this.2.2 h.1⟩
   ·intro c c' k k' β hc hc' hr hr' hβ hβ'
    rcases hblk c k hc with ⟨h0, h1⟩ | ⟨m, x, h1, h2, h3, h4⟩ <;> rcases hblk c' k' hc' with ⟨h0', h1'⟩ | ⟨m', x', h1', h2', h3', h4'⟩
    ·have hβ := (hext.has (by rw [h1]; rfl)).1 hβ
     have hβ' := (hext.has (by rw [h1']; rfl)).1 hβ'
     exact hs.at_inj c c' k k' β h1 h1' hr hr' hβ hβ'
    ·have hβ := (hext.has (by rw [h1]; rfl)).1 hβ
     rw [← h2', hvia.has h1'] at hβ'
     have h5 := hvat m' β (by omega) hβ'
     have h6 := (hs.at_ok c k β h1 hr hβ).2.1
     omega
    ·have hβ' := (hext.has (by rw [h1']; rfl)).1 hβ'
     rw [← h2, hvia.has h1] at hβ
     have h5 := hvat m β (by omega) hβ
     have h6 := (hs.at_ok c' k' β h1' hr' hβ').2.1
     omega
    ·rw [← h2, hvia.has h1] at hβ
     rw [← h2', hvia.has h1'] at hβ'
     have := hvinj m m' β (by omega) (by omega) hβ hβ'
     rw [← h2, ← h2', this]
   ·intro β h
    rcases hS3 β h with h | h
    ·have := hs.S_lt β h; omega
    ·exact h.2
   ·intro β h
    rcases hS3 β h with h | h
    ·exact hs.S_src β h
    ·exact .inr (by omega)
  have hrn : ∀ b, b ∈ res.names → b < ns.length := fun b hb => by
   have := List.all_eq_true.1 hres b hb
   rw [hns]; simpa using this
  refine hK _ _ ⟨G2, key.put (some s) (some (res.ren (nm ns))) v (by intro t e; cases e; exact hn) ?_⟩
  rintro d ⟨⟩
  refine ⟨hres'.ren hvia hrn, fun b hb => ?_⟩
  obtain ⟨b0, h1, h2⟩ := Kn hb
  have hrx : rv[b0]? = some (rv[b0]'(by have := hrn b0 h1; omega)) := by simp [show b0 < rv.length from by have := hrn b0 h1; omega]
  show (BW st.bx (J0 ns rv) b).isSome = true
  rw [h2, (hvg b).2 b0 _ hrx]; rfl
end run
end Go.Lift

/- The rules of statements, how a state is seen anew, and how a contract is proved. No condition. -/
namespace Go.Lift
open Go.RowKit
variable {P : Program} {X : JY}
def W (P : Program) (X : JY) (c : Code) (Q : Exit → St → Prop) (st : St) : Prop :=
 ∀ (a : Act) (w : World), OI P X st a w → c.wp P (fun e a' w' => ∃ st', Q e st' ∧ OI P X st' a' w') a w
def Ph (K : St → Prop) (Q : Exit → St → Prop) : Exit → St → Prop
 | .normal, st => K st
 | e, st => Q e st
theorem Ab {x y : Code} {Q : Exit → St → Prop} {st : St} (h : W P X x (Ph (W P X y Q) Q) st) : W P X (.seq x y) Q st := by
 intro a w hs
 refine wp_seq (wp_mono (h a w hs) ?_)
 rintro e a' w' ⟨st', hq, hs'⟩
 cases e with
 | normal => exact hq a' w' hs'
 | _ => exact ⟨st', hq, hs'⟩
theorem Ue {c : Code} {Q Q' : Exit → St → Prop} {st : St} (h : W P X c Q st) (hq : ∀ e st, Q e st → Q' e st) : W P X c Q' st :=
 fun a w hs => wp_mono (h a w hs) fun _ _ _ ⟨st', h1, h2⟩ => ⟨st', hq _ _ h1, h2⟩
theorem Aq {Q : Exit → St → Prop} {st : St} (h : Q .normal st) : W P X .skip Q st := fun _ _ hs => wp_skip ⟨st, h, hs⟩
theorem AL {id : Nat} {Q : Exit → St → Prop} {st : St} (h : Q (.exit id) st) : W P X (.exit id) Q st := fun _ _ hs => wp_exit ⟨st, h, hs⟩
theorem Ax {Q : Exit → St → Prop} {st : St} (h : Q .ret st) : W P X .ret Q st := fun _ _ hs => wp_ret ⟨st, h, hs⟩
theorem Ap {c : Operand} {x y : Code} {Q : Exit → St → Prop} {st : St} {b : Bool} (hc : opd st.env c = some (bD b)) (ht : b = true → W P X x Q st) (hf : b = false → W P X y Q st) : W P X (.cond c x y) Q st := by
 intro a w hs
 have hcv : a.eval c = .bool b := by
  obtain ⟨G, hs⟩ := hs
  exact Fw (hs.opd hc : EK w G.S (a.eval c) (.val _))
 cases b with
 | true => exact wp_cond_true hcv (ht rfl a w hs)
 | false => exact wp_cond_false hcv (hf rfl a w hs)
def Om (id : Nat) (Q : Exit → St → Prop) : Exit → St → Prop
 | .exit id', st => if id' = id then Q .normal st else Q (.exit id') st
 | e, st => Q e st
theorem AD {id : Nat} {c : Code} {Q : Exit → St → Prop} {st : St} (h : W P X c (Om id Q) st) : W P X (.block id c) Q st := by
 intro a w hs
 refine wp_block (wp_mono (h a w hs) ?_)
 rintro e a' w' ⟨st', hq, hs'⟩
 cases e with
 | exit id' =>
  simp only [Om] at hq
  simp only [Exit.inBlock]
  split at hq
  ·rename_i e; rw [if_pos e]; exact ⟨st', hq, hs'⟩
  ·rename_i e; rw [if_neg e]; exact ⟨st', hq, hs'⟩
 | _ => exact ⟨st', hq, hs'⟩
theorem Uf {c : Code} {Q : Exit → St → Prop} {st : St} (I : Nat → St → Prop) (n : Nat) (h0 : I n st)
  (round : ∀ n st, I n st → W P X c (Ph (fun st' => ∃ m, m < n ∧ I m st') Q) st) : W P X (.loop c) Q st := by
 intro a w hs b k cs
 have key : ∀ (n : Nat) (st : St) (a : Act) (w : World), I n st → OI P X st a w →
   ∃ e a' w', (∃ st', Q e st' ∧ OI P X st' a' w') ∧ Arrives P (lone (b.at a (.code c :: .inLoop c :: k)) cs w) b k cs e a' w' := by
  intro n
  induction n using Nat.strongRecOn with
  | _ n ih =>
   intro st a w hI hs
   obtain ⟨e, a1, w1, ⟨st1, hq, hs1⟩, harr⟩ := round n st hI a w hs b (.inLoop c :: k) cs
   cases e with
   | normal =>
    obtain ⟨m, hm, hI1⟩ := hq
    obtain ⟨e2, a2, w2, h2, harr2⟩ := ih m hm st1 a1 w1 hI1 hs1
    exact ⟨e2, a2, w2, h2, .of_steps (Steps.trans harr (.one step_inLoop)) harr2⟩
   | exit id => exact ⟨_, a1, w1, ⟨st1, hq, hs1⟩, .pass (x := .inLoop c) rfl (fun _ _ => .inl (by simp)) harr⟩
   | goto l => exact ⟨_, a1, w1, ⟨st1, hq, hs1⟩, .pass (x := .inLoop c) rfl (fun _ _ => .inl (by simp)) harr⟩
   | ret => exact ⟨_, a1, w1, ⟨st1, hq, hs1⟩, .pass (x := .inLoop c) rfl (fun _ _ => .inl (by simp)) harr⟩
   | panic ch => exact ⟨_, a1, w1, ⟨st1, hq, hs1⟩, .pass (x := .inLoop c) rfl (fun _ _ => .inl (by simp)) harr⟩
   | outgrown => exact ⟨_, a1, w1, ⟨st1, hq, hs1⟩, .pass (x := .inLoop c) rfl (fun _ _ => .inl (by simp)) harr⟩
 obtain ⟨e, a', w', hq, harr⟩ := key n st a w h0 hs
 exact ⟨e, a', w', hq, .of_steps (.one step_loop) harr⟩
theorem Aa {id : Nat} {ops : Array Oper} {dr : Bool} {Q : Exit → St → Prop} {st : St} {n : Nat} (hm : P.follows .mixedOrders = true) (hn : ops.size = n)
  (h : BA P X ops dr (fun st' => Q .normal st') n 0 st []) : W P X (.region id ops dr) Q st := by
 subst hn
 intro a w hs
 exact Np hm h (fun st' a' w' hq hs' => ⟨st', hq, hs'⟩) hs
theorem Ae {ops : Array Oper} {Q : St → Prop} {i : Nat} {st : St} {log : List (Nat × DK)} (h : Q st) : BA P X ops false Q 0 i st log := ⟨(fun h => by cases h), h⟩
theorem Az {ops : Array Oper} {Q : St → Prop} {i : Nat} {st : St} {log : List (Nat × DK)} (hb : (Hr (NL ops.toList []) log.reverse && JB ops) = true) (h : Q st) : BA P X ops true Q 0 i st log := ⟨fun _ => hb, h⟩
theorem Am {c : Code} {Q : Exit → St → Prop} {st st' : St} (h : G7 P X st st') (hw : W P X c Q st') : W P X c Q st := fun a w hs => hw a w (h a w hs)
def OB {α : Type} : List (Nat × α) → Nat → Option α
 | [], _ => none
 | p :: ps, k => if k = p.1 then some p.2 else OB ps k
def mk (el : List (Nat × D)) (bl : List (Nat × B5)) : St := ⟨OB el, OB bl⟩
def SQ (f : Nat → Nat) (env : Nat → Option D) : List (Nat × D) → Prop
 | [] => True
 | p :: ps => env p.1 = some (p.2.ren f) ∧ SQ f env ps
def Sy (f : Nat → Nat) (bx : Nat → Option B5) : List (Nat × B5) → Prop
 | [] => True
 | p :: ps => bx (f p.1) = some (p.2.ren f) ∧ Sy f bx ps
theorem Ln {α : Type} : ∀ {l : List (Nat × α)} {k : Nat} {x : α}, OB l k = some x → (k, x) ∈ l
 | p :: ps, k, x, h => by
  simp only [OB] at h
  split at h
  ·rename_i e; cases h; subst e; simp
  ·exact List.mem_cons_of_mem _ (Ln h)
theorem O9 {f : Nat → Nat} {env : Nat → Option D} : ∀ {l : List (Nat × D)}, SQ f env l → ∀ p, p ∈ l → env p.1 = some (p.2.ren f)
 | q :: ps, h, p, hp => by
  rcases List.mem_cons.1 hp with e | e
  ·subst e; exact h.1
  ·exact O9 h.2 p e
theorem Pc {f : Nat → Nat} {bx : Nat → Option B5} : ∀ {l : List (Nat × B5)}, Sy f bx l → ∀ p, p ∈ l → bx (f p.1) = some (p.2.ren f)
 | q :: ps, h, p, hp => by
  rcases List.mem_cons.1 hp with e | e
  ·subst e; exact h.1
  ·exact Pc h.2 p e
def Tz (el : List (Nat × D)) (bl : List (Nat × B5)) : Bool :=
 (el.all fun p => p.2.names.all fun b => (bl.any fun q => q.1 == b)) && (bl.all fun p => p.2.names.all fun b => (bl.any fun q => q.1 == b))
theorem Km {α : Type} : ∀ {l : List (Nat × α)} {b : Nat}, (l.any fun q => q.1 == b) = true → (OB l b).isSome = true
 | p :: ps, b, h => by
  simp only [List.any_cons, Bool.or_eq_true, beq_iff_eq] at h
  simp only [OB]
  split
  ·rfl
  ·rename_i hne
   rcases h with h | h
   ·exact absurd h.symm hne
   ·exact Km h
theorem KQ {w : World} {G : Gh} {f : Nat → Nat} {v : Value} {c : C} (h : FT P w G v (c.ren f)) : FT P w { S := G.S, loc := fun b => G.loc (f b), hd := fun b => G.hd (f b), more := fun b => G.more (f b) } v c := by
 cases c <;> exact h
theorem M7 {w : World} {G : Gh} {f : Nat → Nat} {v : Value} {x : E} (h : Jz P w G v (x.ren f)) : Jz P w { S := G.S, loc := fun b => G.loc (f b), hd := fun b => G.hd (f b), more := fun b => G.more (f b) } v x := by
 cases x with
 | one c => exact KQ h
 | agg cs =>
  obtain ⟨vs, e, hs, h⟩ := h
  exact ⟨vs, e, by simpa using hs, fun j c hj => KQ (h j _ (Ag hj))⟩
theorem JN {w : World} {G : Gh} {f : Nat → Nat} {v : Value} {d : D} (h : HH P w G v (d.ren f)) : HH P w { S := G.S, loc := fun b => G.loc (f b), hd := fun b => G.hd (f b), more := fun b => G.more (f b) } v d := by
 cases d with
 | e x => exact M7 h
 | tup xs =>
  obtain ⟨vs, e, hs, h⟩ := h
  exact ⟨vs, e, by simpa using hs, fun j c hj => M7 (h j _ (Ag hj))⟩
theorem JV {w : World} {G : Gh} {f : Nat → Nat} {b : Nat} {k : B5} (h : Gj P w G (f b) (k.ren f)) : Gj P w { S := G.S, loc := fun b => G.loc (f b), hd := fun b => G.hd (f b), more := fun b => G.more (f b) } b k := by
 cases k with
 | box cells =>
  obtain ⟨β, arr, el, h1, h2, h3, h4⟩ := h
  exact ⟨β, arr, el, h1, h2, by simpa using h3, fun j c hj => KQ (h4 j _ (Ag hj))⟩
 | vec e rows => exact h
 | mp es => exact h
 | dvec e cols rows => exact h
 | hol e cols i k c rows => exact h
 | gone => trivial
theorem JF {f : Nat → Nat} {k : B5} : (k.ren f).real = k.real := by cases k <;> rfl
theorem ME {f g : Nat → Nat} {c : C} (h : ∀ b, b ∈ c.names → f b = g b) : c.ren f = c.ren g := by
 cases c <;> first | rfl | (simp only [C.ren]; rw [h _ (by simp [C.names])])
theorem LW {f g : Nat → Nat} {cs : List C} (h : ∀ b, b ∈ EY cs → f b = g b) : cs.map (C.ren f) = cs.map (C.ren g) :=
 List.map_congr_left fun c hc => ME fun b hb => h b (Bq.2 ⟨c, hc, hb⟩)
theorem MK {f g : Nat → Nat} {x : E} (h : ∀ b, b ∈ x.names → f b = g b) : x.ren f = x.ren g := by
 cases x with
 | one c => simp only [E.ren]; rw [ME h]
 | agg cs => simp only [E.ren]; rw [LW h]
theorem Pl {f g : Nat → Nat} {d : D} (h : ∀ b, b ∈ d.names → f b = g b) : d.ren f = d.ren g := by
 cases d with
 | e x => simp only [D.ren]; rw [MK h]
 | tup xs =>
  simp only [D.ren]; congr 1
  exact List.map_congr_left fun c hc => MK fun b hb => h b (E4.2 ⟨c, hc, hb⟩)
theorem Pv {f g : Nat → Nat} {k : B5} (h : ∀ b, b ∈ k.names → f b = g b) : k.ren f = k.ren g := by
 cases k with
 | box cs => simp only [B5.ren]; rw [LW h]
 | hol e cols i k c rows => simp only [B5.ren]; rw [h c (by simp [B5.names])]
 | _ => rfl
theorem Sx {st : St} (f : Nat → Nat) (el : List (Nat × D)) (bl : List (Nat × B5)) (he : SQ f st.env el) (hb : Sy f st.bx bl) (hinj' : (Jc ((bl.map (·.1)).map f) && bl.all fun p => if Cx p.1 then f p.1 == p.1 else !Cx (f p.1)) = true) (hshut : Tz el bl = true) : G7 P X st (mk el bl) := by
 have hinj := Jb (Bool.and_eq_true_iff.1 hinj').1
 have hlen := List.all_eq_true.1 (Bool.and_eq_true_iff.1 hinj').2
 rintro a w ⟨G, h⟩
 simp only [Tz, Bool.and_eq_true] at hshut
 let f0 := f
 let f' : Nat → Nat := fun b => if Cx b then b else f b
 have hff : ∀ p, p ∈ bl → f' p.1 = f p.1 := fun p hp => by
  have := hlen p hp
  by_cases hl : Cx p.1 = true
  ·simp only [hl, if_true] at this
   simp only [f', hl, if_true]
   exact (beq_iff_eq.1 this).symm
  ·simp only [f']; rw [if_neg hl]
 have hfe : ∀ p, p ∈ el → ∀ b, b ∈ p.2.names → f' b = f b := fun p hp b hb => by
  have := List.all_eq_true.1 (List.all_eq_true.1 hshut.1 p hp) b hb
  rw [List.any_eq_true] at this
  obtain ⟨q, hq, e⟩ := this
  rw [← beq_iff_eq.1 e]; exact hff q hq
 have hfb : ∀ p, p ∈ bl → ∀ b, b ∈ p.2.names → f' b = f b := fun p hp b hb => by
  have := List.all_eq_true.1 (List.all_eq_true.1 hshut.2 p hp) b hb
  rw [List.any_eq_true] at this
  obtain ⟨q, hq, e⟩ := this
  rw [← beq_iff_eq.1 e]; exact hff q hq
 replace he : ∀ p, p ∈ el → st.env p.1 = some (p.2.ren f') := fun p hp => by rw [O9 he p hp, Pl (hfe p hp)]
 replace hb : ∀ p, p ∈ bl → st.bx (f' p.1) = some (p.2.ren f') := fun p hp => by rw [hff p hp, Pc hb p hp, Pv (hfb p hp)]
 refine ⟨{ S := G.S, loc := fun b => G.loc (f' b), hd := fun b => G.hd (f' b), more := fun b => G.more (f' b) }, ?_⟩
 have hbl : ∀ b k, (mk el bl).bx b = some k → (b, k) ∈ bl ∧ st.bx (f' b) = some (k.ren f') := fun b k hk => by
  have hm := Ln hk
  exact ⟨hm, hb _ hm⟩
 refine { S_lt := h.S_lt, S_src := h.S_src, S_0 := h.S_0, S0_lt := h.S0_lt, tsz := h.tsz, defers := h.defers, below := h.below, nlt := h.nlt, lent := fun b hb => by simp only [f', hb, if_true]; exact h.lent b hb, blk := ?_, at_ok := ?_, at_inj := ?_, env := ?_, live := ?_, liveB := ?_ }
 ·intro b k hk; exact JV (h.blk _ _ (hbl b k hk).2)
 ·intro b k β hk hr hβ
  have h1 := h.at_ok (f' b) (k.ren f') β (hbl b k hk).2 (by rw [JF]; exact hr) hβ
  refine ⟨⟨fun h3 => h1.1.1 ?_, h1.1.2⟩, h1.2⟩
  have h4 := hlen _ (hbl b k hk).1
  simp only [h3] at h4
  rw [hff _ (hbl b k hk).1]
  simpa using h4
 ·intro b c k l β hk hl hr hr' hβ hβ'
  have h1 := h.at_inj (f' b) (f' c) (k.ren f') (l.ren f') β (hbl b k hk).2 (hbl c l hl).2 (by rw [JF]; exact hr) (by rw [JF]; exact hr') hβ hβ'
  rw [hff _ (hbl b k hk).1, hff _ (hbl c l hl).1] at h1
  obtain ⟨i, hi⟩ := List.mem_iff_getElem?.1 (hbl b k hk).1
  obtain ⟨j, hj⟩ := List.mem_iff_getElem?.1 (hbl c l hl).1
  have hi' : ((bl.map (·.1)).map f)[i]? = some (f b) := Ag (Ag hi)
  have hj' : ((bl.map (·.1)).map f)[j]? = some (f c) := Ag (Ag hj)
  have hij : i = j := by
   rcases Nat.lt_trichotomy i j with h2 | h2 | h2
   ·have := List.pairwise_iff_getElem.1 hinj i j (AV hi') (AV hj') h2
    rw [List.getElem?_eq_some_iff] at hi' hj'
    obtain ⟨_, e1⟩ := hi'; obtain ⟨_, e2⟩ := hj'
    exact absurd (e1.trans (h1.trans e2.symm)) this
   ·exact h2
   ·have := List.pairwise_iff_getElem.1 hinj j i (AV hj') (AV hi') h2
    rw [List.getElem?_eq_some_iff] at hi' hj'
    obtain ⟨_, e1⟩ := hi'; obtain ⟨_, e2⟩ := hj'
    exact absurd (e2.trans (h1.symm.trans e1.symm)) this
  subst hij
  rw [hi] at hj; cases hj; rfl
 ·intro s d hs
  exact JN (h.env s _ (he _ (Ln hs)))
 ·intro s d hs b hb'
  have := List.all_eq_true.1 (List.all_eq_true.1 hshut.1 _ (Ln hs)) b hb'
  exact Km this
 ·intro b k hk c hc
  have := List.all_eq_true.1 (List.all_eq_true.1 hshut.2 _ (hbl b k hk).1) c hc
  exact Km this
theorem BR {st : St} (s b e : Nat) (hs : st.env s = some (one .nil0)) (hb : st.bx b = none) (hlt : Cx b = false) : G7 P X st (St.setB (St.put st (some s) (some (.e (.one (.own b))))) b (.vec e [])) := by
 rintro a w ⟨G, h⟩
 have hv : EK w G.S (AF a.tmps s) .nil0 := h.env s _ hs
 obtain ⟨a0, ha0⟩ : ∃ a0, AF a.tmps s = .slice a0 0 0 := by
  generalize AF a.tmps s = v at hv
  cases hv; exact ⟨_, rfl⟩
 have hne : ∀ c, (st.bx c).isSome = true → c ≠ b := fun c hc e => by rw [e, hb] at hc; cases hc
 have hext : G.ext (G.set b none (.slice a0 0 0)) (fun b => (st.bx b).isSome = true) := Gh.set_ext _ _ _ _ (by simp [hb])
 have h1 : Eg P X (G.set b none (.slice a0 0 0)) ⟨st.env, (St.setB st b (.vec e [])).bx⟩ a w := by
  refine h.frame ?_ hext (fun _ _ => rfl) ?_ ?_ ?_ h.S_lt h.S_src h.below (Gh.set_lent _ _ hlt)
  ·intro c hc; simp only [St.setB]; split <;> simp [hc]
  ·intro c k hc
   simp only [St.setB] at hc
   split at hc
   ·rename_i e2; subst e2; cases hc
    exact .inr ⟨.inl ⟨a0, by simp [Gh.set], rfl, by simp [Gh.set]⟩, fun c hc => by cases hc⟩
   ·exact .inl ⟨hc, fun _ _ _ => rfl⟩
  ·intro c k β hc hr hβ
   simp only [St.setB] at hc
   rw [Gh.set_has] at hβ
   split at hc
   ·rename_i e2; rw [if_pos e2] at hβ; cases hβ
   ·rename_i e2; rw [if_neg e2] at hβ; exact h.at_ok c k β hc hr hβ
  ·intro c c' k k' β hc hc' hr hr' hβ hβ'
   simp only [St.setB] at hc hc'
   rw [Gh.set_has] at hβ hβ'
   split at hc
   ·rename_i e2; rw [if_pos e2] at hβ; cases hβ
   ·rename_i e2; rw [if_neg e2] at hβ
    split at hc'
    ·rename_i e3; rw [if_pos e3] at hβ'; cases hβ'
    ·rename_i e3; rw [if_neg e3] at hβ'; exact h.at_inj c c' k k' β hc hc' hr hr' hβ hβ'
 refine ⟨G.set b none (.slice a0 0 0), { h1 with env := ?_, live := ?_, blk := h1.blk, at_ok := h1.at_ok, at_inj := h1.at_inj, liveB := h1.liveB, nlt := h1.nlt, lent := h1.lent }⟩
 ·intro t d ht
  simp only [St.setB, St.put] at ht
  split at ht
  ·rename_i e2; cases ht
   rw [e2, ha0]
   exact ⟨by simp [Gh.set], _, _, _, rfl⟩
  ·exact h1.env t d ht
 ·intro t d ht c hc
  simp only [St.setB, St.put] at ht
  split at ht
  ·cases ht
   simp [D.names, E.names, C.names] at hc
   subst hc; simp [St.setB]
  ·exact h1.live t d ht c hc
theorem A1 {st : St} (x k b e : Nat) (cells : List C) (hx : st.bx x = some (.box cells)) (hk : cells[k]? = some (.pure .nil0)) (hb : st.bx b = none) (hlt : Cx b = false) : G7 P X st (St.setB (St.setB st b (.vec e [])) x (.box (cells.set k (.own b)))) := by
 rintro a w ⟨G, h⟩
 obtain ⟨β, arr, el, g1, g2, g3, g4⟩ := h.blk x _ hx
 have hv : EK w G.S (AF arr k) .nil0 := g4 k _ hk
 obtain ⟨a0, ha0⟩ : ∃ a0, AF arr k = .slice a0 0 0 := by
  generalize AF arr k = v at hv
  cases hv; exact ⟨_, rfl⟩
 have hxb : x ≠ b := fun e => by rw [e, hb] at hx; cases hx
 have hext : G.ext (G.set b none (.slice a0 0 0)) (fun b => (st.bx b).isSome = true) := Gh.set_ext _ _ _ _ (by simp [hb])
 have hbx : ∀ c, (St.setB (St.setB st b (.vec e [])) x (.box (cells.set k (.own b)))).bx c = if c = x then some (.box (cells.set k (.own b))) else if c = b then some (.vec e []) else st.bx c := fun c => rfl
 refine ⟨G.set b none (.slice a0 0 0), ?_⟩
 refine h.frame (bx' := (St.setB (St.setB st b (.vec e [])) x (.box (cells.set k (.own b)))).bx) ?_ hext (fun _ _ => rfl) ?_ ?_ ?_ h.S_lt h.S_src h.below (Gh.set_lent _ _ hlt)
 ·intro c hc; rw [hbx]; split
  ·rfl
  ·split
   ·rfl
   ·exact hc
 ·intro c l hc
  rw [hbx] at hc
  split at hc
  ·rename_i e2; subst e2; cases hc
   refine .inr ⟨⟨β, arr, el, by simp [Gh.set, hxb, g1], g2, by simpa using g3, fun j c hj => ?_⟩, fun c hc => ?_⟩
   ·rcases Mr hj with ⟨rfl, rfl⟩ | ⟨_, hj⟩
    ·rw [ha0]; exact ⟨by simp [Gh.set], _, _, _, rfl⟩
    ·exact (g4 j c hj).mono hext (fun _ _ => rfl) fun b' hb' => h.liveB _ _ hx b' (Bq.2 ⟨c, List.mem_of_getElem? hj, hb'⟩)
   ·obtain ⟨u, hu, hcu⟩ := Bq.1 hc
    rw [hbx]
    rcases List.mem_or_eq_of_mem_set hu with hm | hm
    ·have := h.liveB _ _ hx c (Bq.2 ⟨u, hm, hcu⟩)
     split
     ·rfl
     ·split
      ·rfl
      ·exact this
    ·subst hm
     simp [C.names] at hcu
     subst hcu
     split <;> simp
  ·split at hc
   ·rename_i e3; subst e3; cases hc
    exact .inr ⟨.inl ⟨a0, by simp [Gh.set], rfl, by simp [Gh.set]⟩, fun c hc => by cases hc⟩
   ·exact .inl ⟨hc, fun _ _ _ => rfl⟩
 ·intro c l γ hc hr hγ
  rw [hbx] at hc
  rw [Gh.set_has] at hγ
  split at hc
  ·rename_i e2; subst e2; rw [if_neg hxb] at hγ; exact h.at_ok _ _ γ hx rfl hγ
  ·split at hc
   ·rename_i e3; rw [if_pos e3] at hγ; cases hγ
   ·rename_i e3; rw [if_neg e3] at hγ; exact h.at_ok c l γ hc hr hγ
 ·intro c c' l l' γ hc hc' hr hr' hγ hγ'
  rw [hbx] at hc hc'
  rw [Gh.set_has] at hγ hγ'
  have step : ∀ c l, (if c = x then some (B5.box (cells.set k (.own b))) else if c = b then some (.vec e []) else st.bx c) = some l → l.real = true → (if c = b then (none : Option Nat) = some γ else G.has c γ) → ∃ l0, st.bx c = some l0 ∧ l0.real = true ∧ G.has c γ := by
   intro c l hc hr hγ
   split at hc
   ·rename_i e2; subst e2; rw [if_neg hxb] at hγ; exact ⟨_, hx, rfl, hγ⟩
   ·split at hc
    ·rename_i e3; rw [if_pos e3] at hγ; cases hγ
    ·rename_i e3; rw [if_neg e3] at hγ; exact ⟨l, hc, hr, hγ⟩
  obtain ⟨m, h1, h2, h3⟩ := step c l hc hr hγ
  obtain ⟨m', h1', h2', h3'⟩ := step c' l' hc' hr' hγ'
  exact h.at_inj c c' m m' γ h1 h1' h2 h2' h3 h3'
def C.frz (b : Nat) (rows : List (List T)) : C → C
 | .own c => if c = b then .pure (.sl rows) else .own c
 | .ptr c k => if c = b then .any else .ptr c k
 | .eptr c e i k => if c = b then .any else .eptr c e i k
 | .view c e lo len => if c = b then .any else .view c e lo len
 | .mref c => if c = b then .any else .mref c
 | c => c
def E.frz (b : Nat) (rows : List (List T)) : E → E
 | .one c => .one (c.frz b rows)
 | .agg cs => .agg (cs.map (C.frz b rows))
def D.frz (b : Nat) (rows : List (List T)) : D → D
 | .e x => .e (x.frz b rows)
 | .tup xs => .tup (xs.map (E.frz b rows))
def B5.frz (b : Nat) (rows : List (List T)) : B5 → B5
 | .box cs => .box (cs.map (C.frz b rows))
 | .hol e cols i k c rs => if c = b then .gone else .hol e cols i k c rs
 | k => k
def St.frz (st : St) (b : Nat) (rows : List (List T)) : St :=
 ⟨fun s => (st.env s).map (D.frz b rows), fun c => if c = b then none else (st.bx c).map (B5.frz b rows)⟩
theorem Rq {w : World} {G : Gh} {b : Nat} {rows : List (List T)} {S' : Nat → Prop} {v : Value} {c : C} (h : FT P w G v c) (hS : ∀ β, G.S β → S' β) (hrow : EK w S' (G.hd b) (.sl rows)) : FT P w { G with S := S' } v (c.frz b rows) := by
 cases c with
 | pure t => exact EK.mono h (fun _ _ => rfl) hS
 | own c =>
  simp only [C.frz]
  split
  ·rename_i e; subst e
   have : v = G.hd c := h.1
   subst this
   exact hrow
  ·exact h
 | ptr c k =>
  simp only [C.frz]
  split
  ·exact FT.one h
  ·exact h
 | eptr c e i k =>
  simp only [C.frz]
  split
  ·exact FT.one h
  ·exact h
 | view c e lo len =>
  simp only [C.frz]
  split
  ·exact FT.one h
  ·exact h
 | mref c =>
  simp only [C.frz]
  split
  ·exact FT.one h
  ·exact h
 | rop ts =>
  obtain ⟨β, off, arr, el, fz, h1, h2, h3, h4, h5⟩ := h
  exact ⟨β, off, arr, el, fz, h1, hS _ h2, h3, h4, fun j t hj => (h5 j t hj).mono (fun _ _ => rfl) hS⟩
 | clo g => exact Lg.mono h (fun _ _ => rfl) hS
 | any => exact h
 | nilq p => exact h
 | fnc f => exact h
theorem Tx {w : World} {G : Gh} {b : Nat} {rows : List (List T)} {S' : Nat → Prop} {v : Value} {x : E} (h : Jz P w G v x) (hS : ∀ β, G.S β → S' β) (hrow : EK w S' (G.hd b) (.sl rows)) : Jz P w { G with S := S' } v (x.frz b rows) := by
 cases x with
 | one c => exact Rq h hS hrow
 | agg cs =>
  obtain ⟨vs, e, hs, h⟩ := h
  refine ⟨vs, e, by simp [hs], fun j c hj => ?_⟩
  rw [List.getElem?_map] at hj
  cases hx : cs[j]? with
  | none => rw [hx] at hj; cases hj
  | some c0 => rw [hx] at hj; cases hj; exact Rq (h j c0 hx) hS hrow
theorem Vi {w : World} {G : Gh} {b : Nat} {rows : List (List T)} {S' : Nat → Prop} {v : Value} {d : D} (h : HH P w G v d) (hS : ∀ β, G.S β → S' β) (hrow : EK w S' (G.hd b) (.sl rows)) : HH P w { G with S := S' } v (d.frz b rows) := by
 cases d with
 | e x => exact Tx h hS hrow
 | tup xs =>
  obtain ⟨vs, e, hs, h⟩ := h
  refine ⟨vs, e, by simp [hs], fun j c hj => ?_⟩
  rw [List.getElem?_map] at hj
  cases hx : xs[j]? with
  | none => rw [hx] at hj; cases hj
  | some c0 => rw [hx] at hj; cases hj; exact Tx (h j c0 hx) hS hrow
theorem Ma {b : Nat} {rows : List (List T)} {c : C} {x : Nat} (h : x ∈ (c.frz b rows).names) : x ∈ c.names ∧ x ≠ b := by
 cases c with
 | own c =>
  simp only [C.frz] at h
  split at h
  ·cases h
  ·rename_i e; simp [C.names] at h ⊢; subst h; exact ⟨rfl, e⟩
 | ptr c k =>
  simp only [C.frz] at h
  split at h
  ·cases h
  ·rename_i e; simp [C.names] at h ⊢; subst h; exact ⟨rfl, e⟩
 | eptr c e i k =>
  simp only [C.frz] at h
  split at h
  ·cases h
  ·rename_i e; simp [C.names] at h ⊢; subst h; exact ⟨rfl, e⟩
 | view c e lo len =>
  simp only [C.frz] at h
  split at h
  ·cases h
  ·rename_i e; simp [C.names] at h ⊢; subst h; exact ⟨rfl, e⟩
 | mref c =>
  simp only [C.frz] at h
  split at h
  ·cases h
  ·rename_i e; simp [C.names] at h ⊢; subst h; exact ⟨rfl, e⟩
 | _ => cases h
theorem Mz {b : Nat} {rows : List (List T)} {cs : List C} {x : Nat} (h : x ∈ EY (cs.map (C.frz b rows))) : x ∈ EY cs ∧ x ≠ b := by
 obtain ⟨c, hc, hx⟩ := Bq.1 h
 obtain ⟨c0, h0, rfl⟩ := List.mem_map.1 hc
 obtain ⟨h1, h2⟩ := Ma hx
 exact ⟨Bq.2 ⟨c0, h0, h1⟩, h2⟩
theorem L0 {b : Nat} {rows : List (List T)} {y : E} {x : Nat} (h : x ∈ (y.frz b rows).names) : x ∈ y.names ∧ x ≠ b := by
 cases y with
 | one c => exact Ma h
 | agg cs => exact Mz h
theorem OT {b : Nat} {rows : List (List T)} {d : D} {x : Nat} (h : x ∈ (d.frz b rows).names) : x ∈ d.names ∧ x ≠ b := by
 cases d with
 | e y => exact L0 h
 | tup xs =>
  obtain ⟨c, hc, hx⟩ := E4.1 h
  obtain ⟨c0, h0, rfl⟩ := List.mem_map.1 hc
  obtain ⟨h1, h2⟩ := L0 hx
  exact ⟨E4.2 ⟨c0, h0, h1⟩, h2⟩
theorem Bl {st : St} (b e : Nat) (rows : List (List T)) (hb : st.bx b = some (.vec e rows)) (hlt : Cx b = false) : G7 P X st (st.frz b rows) := by
 rintro a w ⟨G, h⟩
 let S' : Nat → Prop := fun β => G.S β ∨ G.loc b = some β
 have hS : ∀ β, G.S β → S' β := fun β h => .inl h
 have hrow : EK w S' (G.hd b) (.sl rows) := by
  rcases h.blk b _ hb with ⟨a0, h1, h2, _⟩ | ⟨β, cap, arr, el, h0, h1, h2, h3, h4, h5, h6⟩
  ·rw [h1, h2]; exact .nil _ _
  ·rw [h1]
   exact .sl β 0 cap e arr el (0, 0) rows (.inr h0) h2 h3 (by rw [h4, Nat.zero_add]; exact Nat.mul_le_mul_right e h3) h5 (fun i row j t hi hj => by rw [Nat.zero_add]; exact (h6 i row j t hi hj).mono (fun _ _ => rfl) hS)
 have hbk : ∀ c k, (st.frz b rows).bx c = some k → c ≠ b ∧ ∃ k0, st.bx c = some k0 ∧ k = k0.frz b rows := fun c k hc => by
  simp only [St.frz] at hc
  split at hc
  ·cases hc
  ·rename_i e
   cases hx : st.bx c with
   | none => rw [hx] at hc; cases hc
   | some k0 => rw [hx] at hc; exact ⟨e, k0, rfl, by simpa using hc.symm⟩
 have hreal : ∀ k : B5, (k.frz b rows).real = true → k.real = true := fun k hk => by
  cases k <;> first | rfl | exact hk
 have hlv : ∀ c, (st.bx c).isSome = true → c ≠ b → ((st.frz b rows).bx c).isSome = true := fun c hc hne => by
  simp only [St.frz]; rw [if_neg hne]; simpa using hc
 refine ⟨{ G with S := S' }, ?_⟩
 refine { S_lt := ?_, S_src := ?_, S_0 := fun β hβ => .inl (h.S_0 β hβ), S0_lt := h.S0_lt, tsz := h.tsz, defers := h.defers, below := h.below, nlt := h.nlt, lent := h.lent, blk := ?_, at_ok := ?_, at_inj := ?_, env := ?_, live := ?_, liveB := ?_ }
 ·rintro β (hβ | hβ)
  ·exact h.S_lt β hβ
  ·exact (h.at_ok b _ β hb rfl (.inl hβ)).2.1
 ·rintro β (hβ | hβ)
  ·exact h.S_src β hβ
  ·exact .inr ((h.at_ok b _ β hb rfl (.inl hβ)).1.1 hlt)
 ·intro c k hc
  obtain ⟨hne, k0, h0, rfl⟩ := hbk c k hc
  have := h.blk c k0 h0
  cases k0 with
  | box cells =>
   obtain ⟨β, arr, el, h1, h2, h3, h4⟩ := this
   refine ⟨β, arr, el, h1, h2, by simp [h3], fun j u hj => ?_⟩
   rw [List.getElem?_map] at hj
   cases hx : cells[j]? with
   | none => rw [hx] at hj; cases hj
   | some c0 => rw [hx] at hj; cases hj; exact Rq (h4 j c0 hx) hS hrow
  | vec e' rows' =>
   rcases this with h1 | ⟨β, cap, arr, el, h0, h1, h2, h3, h4, h5, h6⟩
   ·exact .inl h1
   ·exact .inr ⟨β, cap, arr, el, h0, h1, h2, h3, h4, h5, fun i row j t hi hj => (h6 i row j t hi hj).mono (fun _ _ => rfl) hS⟩
  | mp es =>
   obtain ⟨β, arr, clock, h1, h2, h3, h4⟩ := this
   exact ⟨β, arr, clock, h1, h2, h3, fun i x hi => by
    obtain ⟨m, e1, e2, e3⟩ := h4 i x hi
    exact ⟨m, e1, e2, e3.mono (fun _ _ => rfl) hS⟩⟩
  | dvec e cols rs =>
   rcases this with h1 | ⟨β, cap, arr, el, Rf, h0, h1, h2, h3, h4, h5, h6, h7, h8, h9⟩
   ·exact .inl h1
   ·exact .inr ⟨β, cap, arr, el, Rf, h0, h1, h2, h3, h4, h5, fun i row j t hi hj => (h6 i row j t hi hj).mono (fun _ _ => rfl) hS (fun _ h => h), h7, h8, h9⟩
  | hol e cols i0 k1 c1 rs =>
   simp only [B5.frz]
   split
   ·trivial
   ·obtain ⟨β, cap, arr, el, Rf, h0, h1, h2, h3, h4, h5, h6, h7, h8, h9, h10, h11⟩ := this
    exact ⟨β, cap, arr, el, Rf, h0, h1, h2, h3, h4, h5, fun i row j t hi hj hne => (h6 i row j t hi hj hne).mono (fun _ _ => rfl) hS (fun _ h => h), h7, h8, h9, h10, h11⟩
  | gone => trivial
 ·intro c k β hc hr hβ
  obtain ⟨hne, k0, h0, rfl⟩ := hbk c k hc
  have hr := hreal _ hr
  have h1 := h.at_ok c k0 β h0 hr hβ
  refine ⟨h1.1, h1.2.1, ?_⟩
  rintro (h2 | h2)
  ·exact h1.2.2 h2
  ·exact hne (h.at_inj c b k0 _ β h0 hb hr rfl hβ (.inl h2))
 ·intro c c' k k' β hc hc' hr hr' hβ hβ'
  obtain ⟨_, k0, h0, rfl⟩ := hbk c k hc
  obtain ⟨_, k0', h0', rfl⟩ := hbk c' k' hc'
  have hr := hreal _ hr
  have hr' := hreal _ hr'
  exact h.at_inj c c' k0 k0' β h0 h0' hr hr' hβ hβ'
 ·intro s d hs
  simp only [St.frz] at hs
  cases hx : st.env s with
  | none => rw [hx] at hs; cases hs
  | some d0 => rw [hx] at hs; cases hs; exact Vi (h.env s d0 hx) hS hrow
 ·intro s d hs c hc
  simp only [St.frz] at hs
  cases hx : st.env s with
  | none => rw [hx] at hs; cases hs
  | some d0 =>
   rw [hx] at hs; cases hs
   obtain ⟨h1, h2⟩ := OT hc
   exact hlv c (h.live s d0 hx c h1) h2
 ·intro c k hc x hx
  obtain ⟨_, k0, h0, rfl⟩ := hbk c k hc
  cases k0 with
  | box cells =>
   obtain ⟨h1, h2⟩ := Mz hx
   exact hlv x (h.liveB c _ h0 x h1) h2
  | vec e' rows' => cases hx
  | mp es => cases hx
  | dvec e cols rs => cases hx
  | hol e cols i0 k1 c1 rs =>
   simp only [B5.frz] at hx
   split at hx
   ·cases hx
   ·rename_i hne
    have hx' : x = c1 := by simpa [B5.names] using hx
    subst hx'
    exact hlv x (h.liveB c _ h0 x (by simp [B5.names])) hne
  | gone => cases hx
end Go.Lift

/- How a contract is proved out of the rules, and a contract whose result is shared. No condition. -/
namespace Go.Lift
open Go.RowKit
variable {P : Program} {X : JY}
def Vr (args : List D) : St := ⟨fun s => args[s]?, fun _ => none⟩
inductive RR (P : Program) (st : St) : ResultVar → E → Prop where
 | tmp (t : Nat) (x : E) (h : st.env t = some (.e x)) : RR P st (.tmp t) x
 | cell1 (a t b k : Nat) (cells : List C) (c : C) (h1 : st.env a = some (.e (.one (.ptr b k)))) (h2 : st.bx b = some (.box cells)) (h3 : E9 P t false = true) (h4 : cells[k]? = some c) : RR P st (.cell a t) (.one c)
 | cellN (a t b k n : Nat) (cells cs : List C) (h1 : st.env a = some (.e (.one (.ptr b k)))) (h2 : st.bx b = some (.box cells)) (h3 : E9 P t true = true) (h4 : HR P t n = true) (h5 : (cells.drop k).take n = cs) (h6 : cs.length = n) (h7 : 0 < n) : RR P st (.cell a t) (.agg cs)
def VR (P : Program) (st : St) : List ResultVar → List E → Prop
 | [], [] => True
 | v :: vs, x :: xs => RR P st v x ∧ VR P st vs xs
 | _, _ => False
def Vo : List E → D
 | [x] => .e x
 | xs => .tup xs
def PB (bx : Nat → Option B5) : Nat → List (Nat × List (List T)) → Prop
 | _, [] => True
 | k, x :: xs => bx (1000 + k) = some (.vec x.1 x.2) ∧ PB bx (k + 1) xs
theorem IJ {bx : Nat → Option B5} : ∀ {rv : List (Nat × List (List T))} {m : Nat}, PB bx m rv → ∀ (k : Nat) (x : Nat × List (List T)), rv[k]? = some x → bx (1000 + (m + k)) = some (.vec x.1 x.2)
 | y :: rv, m, h, 0, x, hk => by simp at hk; subst hk; exact h.1
 | y :: rv, m, h, k + 1, x, hk => by
  have := IJ h.2 k x (by simpa using hk)
  rwa [show m + 1 + k = m + (k + 1) from by omega] at this
structure TB (P : Program) (rs : List ResultVar) (st : St) (rv : List (Nat × List (List T))) (res : D) : Prop where
 r : ∃ xs, VR P st rs xs ∧ Vo xs = res.ren (fun k => 1000 + k)
 v : PB st.bx 0 rv
theorem Eg.rr {G : Gh} {st : St} {a : Act} {w : World} (hs : Eg P X G st a w) {v : ResultVar} {x : E} (h : RR P st v x) :
  ∃ u, (match v with | .tmp t => pure (a.tmps.getD t undef) | .cell b t => do loadVar t (← asAddr (a.tmps.getD b undef)) : Sem Value).run P w = .ok u w ∧ Jz P w G u x := by
 have hget : ∀ t, a.tmps.getD t undef = AF a.tmps t := fun t => by simp [AF]
 cases h with
 | tmp t x h => exact ⟨_, rfl, by rw [hget]; exact hs.env t _ h⟩
 | cell1 b t n k cells c h1 h2 h3 h4 =>
  obtain ⟨β, hβ, hv⟩ : FT P w G (AF a.tmps b) (.ptr n k) := hs.env b _ h1
  obtain ⟨β', arr, el, g1, g2, g3, g4⟩ := hs.blk n _ h2
  rw [hβ] at g1; cases g1
  have hk := AV h4
  refine ⟨AF arr k, ?_, g4 k c h4⟩
  simp only [hget, hv]
  refine As (a := (⟨β, k, none⟩ : Addr)) (w1 := w) rfl ?_
  unfold loadVar
  refine As (IA h3 w) ?_
  exact NH g2 (by omega)
 | cellN b t n k m cells cs h1 h2 h3 h4 h5 h6 h7 =>
  obtain ⟨β, hβ, hv⟩ : FT P w G (AF a.tmps b) (.ptr n k) := hs.env b _ h1
  obtain ⟨β', arr, el, g1, g2, g3, g4⟩ := hs.blk n _ h2
  rw [hβ] at g1; cases g1
  have hk : k + m ≤ cells.length := by
   have := congrArg List.length h5
   simp at this; omega
  refine ⟨.agg ((List.range m).map fun j => AF arr (k + j)).toArray, ?_, ⟨_, rfl, by simp [h6], fun j c hj => ?_⟩⟩
  ·simp only [hget, hv]
   refine As (a := (⟨β, k, none⟩ : Addr)) (w1 := w) rfl ?_
   unfold loadVar
   refine As (IA h3 w) ?_
   simp only [if_true]
   exact As (Fv h4 w) (As (H4 g2 (by omega)) rfl)
  ·have hjn := AV hj
   rw [Ir (by omega)]
   rw [← h5, List.getElem?_take_of_lt (by omega), List.getElem?_drop] at hj
   exact g4 _ c hj
theorem Eg.rrs {G : Gh} {st : St} {a : Act} {w : World} (hs : Eg P X G st a w) : ∀ {vs : List ResultVar} {xs : List E}, VR P st vs xs →
  ∃ us : List Value, (vs.mapM fun v => (match v with | .tmp t => pure (a.tmps.getD t undef) | .cell b t => do loadVar t (← asAddr (a.tmps.getD b undef)) : Sem Value)).run P w = .ok us w ∧ us.length = xs.length ∧ ∀ (j : Nat) (u : Value) (x : E), us[j]? = some u → xs[j]? = some x → Jz P w G u x
 | [], [], _ => ⟨[], rfl, rfl, fun j u x h => by simp at h⟩
 | v :: vs, x :: xs, h => by
  obtain ⟨u, h1, h2⟩ := hs.rr h.1
  obtain ⟨us, h3, h4, h5⟩ := hs.rrs h.2
  refine ⟨u :: us, ?_, by simp [h4], fun j u' x' hu hx => ?_⟩
  ·rw [List.mapM_cons]
   exact As h1 (As h3 rfl)
  ·cases j with
   | zero => simp at hu hx; subst hu; subst hx; exact h2
   | succ j => exact h5 j u' x' (by simpa using hu) (by simpa using hx)
theorem P1 {S : Nat → Prop} {β : Nat} (h : (G0 S).lent β) : False := by
 obtain ⟨b, _, h | h⟩ := h
 ·cases h
 ·exact h
theorem Ea.none {S : Nat → Prop} {B : Nat} {w w' : World} (h : Ea (G0 S).lent B w w') : Below B w w' := ⟨h.os, h.tape, h.output, h.size, fun k hk => h.block k hk P1⟩
theorem Ar {f n : Nat} {fn : Func} {c : Code} {args : List D} {rv : List (Nat × List (List T))} {res : D} {rs : List ResultVar} (hf : P.funcs[f]? = some fn) (hb : fn.body = some c) (hn : fn.ntmps = n) (hrs : fn.results.toList = rs) (hl : args.length ≤ n) (hn9 : n ≤ 90000) (hpub : args.all R3 = true)
  (h : ∀ (w0 : World) (S0 : Nat → Prop), W P ⟨w0, S0, n, G0 S0⟩ c (fun e st => match e with | .normal | .ret => TB P rs st rv res | _ => False) (Vr args)) : AA P f args rv res := by
 subst hn; subst hrs
 intro w S vs hS hlen hargs
 refine calls_of_wp hf hb ?_
 have hcell : ∀ j, j < args.length → AF (vs ++ Array.replicate (fn.ntmps - vs.size) undef) j = AF vs j := fun j hj => D1 (by omega)
 have hinit : Eg P ⟨w, S, fn.ntmps, G0 S⟩ (G0 S) (Vr args) { tmps := vs ++ Array.replicate (fn.ntmps - vs.size) undef, defers := [] } w := by
  refine { S_lt := hS, S_src := fun β h => .inl h, S_0 := fun β h => h, S0_lt := hS, tsz := by simp; omega, defers := rfl, below := Ea.refl _ _ _, nlt := hn9, lent := fun _ _ => ⟨rfl, rfl, rfl⟩, blk := ?_, at_ok := ?_, at_inj := ?_, env := ?_, live := ?_, liveB := ?_ }
  ·intro b k hk; cases hk
  ·intro b k β hk; cases hk
  ·intro b c k l β hk; cases hk
  ·intro s d hs
   have hs' : args[s]? = some d := hs
   rw [hcell s (AV hs')]
   exact hargs s d hs'
  ·intro s d hs b hb
   have hs' : args[s]? = some d := hs
   have := List.all_eq_true.1 hpub d (List.mem_of_getElem? hs')
   simp [R3] at this
   rw [this] at hb; cases hb
  ·intro b k hk; cases hk
 refine wp_mono (h w S _ w ⟨_, hinit⟩) ?_
 rintro e a' w' ⟨st', hq, G, hs⟩
 have key : TB P fn.results.toList st' rv res → a'.defers = [] ∧ ∃ v, (results fn a'.tmps).run P w' = .ok v w' ∧ ∃ v' G', Ending.returned v = .returned v' ∧ Below w.heap.size w w' ∧ (∀ β, S β → G'.S β) ∧ (∀ β, G'.S β → S β ∨ (w.heap.size ≤ β ∧ β < w'.heap.size)) ∧ HH P w' G' v' res ∧
   (∀ (k : Nat) (x : Nat × List (List T)), rv[k]? = some x → Gj P w' G' k (.vec x.1 x.2)) ∧
   (∀ k β, k < rv.length → G'.has k β → w.heap.size ≤ β ∧ β < w'.heap.size ∧ ¬ G'.S β) ∧
   (∀ k l β, k < rv.length → l < rv.length → G'.has k β → G'.has l β → k = l) := by
  rintro ⟨⟨xs, hr1, hr2⟩, hv⟩
  obtain ⟨us, h1, h2, h3⟩ := hs.rrs hr1
  refine ⟨hs.defers, (if h : us.toArray.size = 1 then us.toArray[0] else .tuple us.toArray), ?_, _, { S := G.S, loc := fun b => G.loc (1000 + b), hd := fun b => G.hd (1000 + b), more := fun b => G.more (1000 + b) }, rfl, hs.below.none, hs.S_0, ?_, ?_, ?_, ?_, ?_⟩
  ·unfold results
   refine As (a := us.toArray) (w1 := w') ?_ rfl
   rw [Array.mapM_eq_mapM_toList]
   simp only [Sem.run_map]
   exact congrArg (fun r => Result.andThen r fun a w' => Result.ok a.toArray w') h1
  ·intro β hβ
   rcases hs.S_src β hβ with h | h
   ·exact .inl h
   ·exact .inr ⟨h, hs.S_lt β hβ⟩
  ·refine JN (f := fun k => 1000 + k) ?_
   rw [← hr2]
   match xs, us, h2 with
   | [], [], _ => exact ⟨#[], rfl, rfl, fun j x h => by simp at h⟩
   | [x], [u], _ => exact h3 0 u x rfl rfl
   | x :: y :: xs, u :: u' :: us, hl2 =>
    refine ⟨(u :: u' :: us).toArray, by simp, by simpa using hl2, fun j z hj => ?_⟩
    have hlt := AV hj
    have hu : (u :: u' :: us)[j]? = some ((u :: u' :: us)[j]'(by rw [hl2]; exact hlt)) := by rw [List.getElem?_eq_getElem]
    have := h3 j _ z hu hj
    have hc : AF (u :: u' :: us).toArray j = (u :: u' :: us)[j]'(by rw [hl2]; exact hlt) := by
     unfold AF
     rw [List.getElem?_toArray, hu]; rfl
    rw [hc]; exact this
  ·intro k x hk
   have := IJ hv k x hk
   rw [Nat.zero_add] at this
   exact hs.blk _ _ this
  ·intro k β hk hβ
   have hx : rv[k]? = some rv[k] := by simp [hk]
   have := IJ hv k _ hx
   rw [Nat.zero_add] at this
   have h1 := hs.at_ok _ _ β this rfl hβ
   exact ⟨by
    rcases h1.1.2 with h | h
    ·exact h
    ·exact (P1 h).elim, h1.2⟩
  ·intro k l β hk hl hβ hβ'
   have hx : rv[k]? = some rv[k] := by simp [hk]
   have hx' : rv[l]? = some rv[l] := by simp [hl]
   have h4 := IJ hv k _ hx
   have h5 := IJ hv l _ hx'
   rw [Nat.zero_add] at h4 h5
   have := hs.at_inj _ _ _ _ β h4 h5 rfl rfl hβ hβ'
   omega
 cases e with
 | normal => exact key hq
 | ret => exact key hq
 | _ => exact hq.elim
def C.shr (rv : List (Nat × List (List T))) : C → C
 | .own k => match rv[k]? with
  | some x => .pure (.sl x.2)
  | none => .own k
 | .ptr _ _ => .any
 | .eptr _ _ _ _ => .any
 | .view _ _ _ _ => .any
 | .mref _ => .any
 | c => c
def E.shr (rv : List (Nat × List (List T))) : E → E
 | .one c => .one (c.shr rv)
 | .agg cs => .agg (cs.map (C.shr rv))
def D.shr (rv : List (Nat × List (List T))) : D → D
 | .e x => .e (x.shr rv)
 | .tup xs => .tup (xs.map (E.shr rv))
end Go.Lift

/- Small words of the shallow programs, and the rules by which a shallow program and the code go side by side. No condition. -/
namespace Go.Lift
open Go.RowKit
def A5 {α : Type} (xs : List α) (i : Int) : Option α := if 0 ≤ i then xs[i.toNat]? else none
def Fu (p : Prop) [Decidable p] : Option Unit := if p then some () else none
def AO {α : Type} (b : Bool) (x y : Option α) : Option α := match b with | true => x | false => y
def Bd {α β : Type} (k : α) (f : α → β) : β := f k
theorem Kw {a b : Nat} (h : Nat.blt a b = true) : a < b := by rw [← Nat.blt_eq]; exact h
theorem AZ {a b : Nat} (h : Nat.ble a b = true) : a ≤ b := Nat.le_of_ble_eq_true h
theorem bind_some {α β : Type} {x : Option α} {f : α → Option β} {r : β} (h : x.bind f = some r) : ∃ a, x = some a ∧ f a = some r := by
 cases x with
 | none => cases h
 | some a => exact ⟨a, rfl, h⟩
theorem Aj {α β : Type} {xs : List α} {i : Int} {f : α → Option β} {r : β} (h : (A5 xs i).bind f = some r) : ∃ x, 0 ≤ i ∧ xs[i.toNat]? = some x ∧ f x = some r := by
 obtain ⟨x, h1, h2⟩ := bind_some h
 unfold A5 at h1
 split at h1
 ·rename_i h0; exact ⟨x, h0, h1, h2⟩
 ·cases h1
theorem AW {β : Type} {p : Prop} [Decidable p] {f : Unit → Option β} {r : β} (h : (Fu p).bind f = some r) : p ∧ f () = some r := by
 obtain ⟨x, h1, h2⟩ := bind_some h
 unfold Fu at h1
 split at h1
 ·rename_i h0; exact ⟨h0, h2⟩
 ·cases h1
theorem An {α : Type} {b : Bool} {x y : Option α} {r : α} (hb : b = true) (h : AO b x y = some r) : x = some r := by subst hb; exact h
theorem Ao {α : Type} {b : Bool} {x y : Option α} {r : α} (hb : b = false) (h : AO b x y = some r) : y = some r := by subst hb; exact h
theorem AU {α β : Type} (f : α → β) (xs : List α) (i : Nat) (y : α) : (xs.map f).set i (f y) = (xs.set i y).map f := by rw [List.map_set]
theorem P2 {α β : Type} (f : α → β) (n : Nat) (y : α) : List.replicate n (f y) = (List.replicate n y).map f := by simp
theorem Pa {α : Type} {f : α → List T} {n : Nat} (h : ∀ x, (f x).length = n) (xs : List α) : ∀ (i : Nat) (row : List T), (xs.map f)[i]? = some row → row.length = n := by
 intro i row hi
 rw [List.getElem?_map] at hi
 cases hx : xs[i]? with
 | none => rw [hx] at hi; cases hi
 | some x => rw [hx] at hi; cases hi; exact h x
def rn (l : List (Nat × Nat)) (b : Nat) : Nat := (OB l b).getD b
section
variable {P : Program} {X : JY}
theorem G7.trans {a b c : St} (h : G7 P X a b) (h2 : G7 P X b c) : G7 P X a c := fun x w hs => h2 x w (h x w hs)
theorem G7.refl {a : St} : G7 P X a a := fun _ _ hs => hs
theorem Av {V R : Type} {J : V → Option R} {r : R} {S : V → St} {s : St} (v : V) (h : J v = some r) (hs : G7 P X s (S v)) : ∃ v, J v = some r ∧ G7 P X s (S v) := ⟨v, h, hs⟩
theorem AK {V R : Type} {x y : Code} {Q : Exit → St → Prop} {st : St} {K : V → Option R} {F : (V → Option R) → Option R} {r : R} (h : Bd K F = some r) (S : V → St)
  (h1 : ∀ J : V → Option R, F J = some r → W P X x (Ph (fun s => ∃ v, J v = some r ∧ G7 P X s (S v)) Q) st) (h2 : ∀ v, K v = some r → W P X y Q (S v)) : W P X (.seq x y) Q st := by
 refine Ab (Ue (h1 K h) ?_)
 intro e s hs
 cases e with
 | normal => obtain ⟨v, h3, h4⟩ := hs; exact Am h4 (h2 v h3)
 | _ => exact hs
def Te (id : Nat) (next brk : St → Prop) (Q : Exit → St → Prop) : Exit → St → Prop
 | .normal, s => next s
 | .exit id', s => if id' = id then brk s else Q (.exit id') s
 | e, s => Q e s
theorem AB {V V' R : Type} {id : Nat} {body : Code} {Q : Exit → St → Prop} {st : St} {L : (V' → Option R) → Nat → V → Option R} {K : V' → Option R} {n : Nat} {v0 : V} {r : R} (h : L K n v0 = some r) (S : V → St) (S' : V' → St)
  (h0 : ∀ J v, L J 0 v = none) (hst : G7 P X st (S v0))
  (round : ∀ (J : V' → Option R) (n : Nat) (v : V), L J (n + 1) v = some r → W P X body (Te id (fun s => ∃ v2, L J n v2 = some r ∧ G7 P X s (S v2)) (fun s => ∃ v', J v' = some r ∧ G7 P X s (S' v')) Q) (S v))
  (h2 : ∀ v' s, K v' = some r → G7 P X s (S' v') → Q .normal s) : W P X (.block id (.loop body)) Q st := by
 refine Am hst (AD ?_)
 refine Uf (fun n s => ∃ v, L K n v = some r ∧ s = S v) n ⟨v0, h, rfl⟩ ?_
 rintro n s ⟨v, hv, rfl⟩
 cases n with
 | zero => rw [h0] at hv; cases hv
 | succ n =>
  intro a w hs
  refine wp_mono (round K n v hv a w hs) ?_
  rintro e a' w' ⟨s, hq, hs'⟩
  cases e with
  | normal =>
   obtain ⟨v2, h3, h4⟩ := hq
   exact ⟨S v2, ⟨n, Nat.lt_succ_self n, v2, h3, rfl⟩, h4 a' w' hs'⟩
  | exit id' =>
   simp only [Te] at hq
   by_cases e : id' = id
   ·rw [if_pos e] at hq
    obtain ⟨v', h3, h4⟩ := hq
    refine ⟨s, ?_, hs'⟩
    simp only [Ph, Om, e, if_true]
    exact h2 v' s h3 h4
   ·rw [if_neg e] at hq
    refine ⟨s, ?_, hs'⟩
    simp only [Ph, Om, e, if_false]
    exact hq
  | goto l => exact ⟨s, hq, hs'⟩
  | ret => exact ⟨s, hq, hs'⟩
  | panic c => exact ⟨s, hq, hs'⟩
  | outgrown => exact ⟨s, hq, hs'⟩
theorem Jp {st : St} (b : Nat) (cells : List C) (hb : st.bx b = some (.box cells)) : G7 P X st (St.setB st b (.box (cells.map C.nrm))) := by
 rintro a w ⟨G, h⟩
 refine ⟨G, ?_⟩
 have hC : ∀ {c : C} {b : Nat}, b ∈ c.nrm.names → b ∈ c.names := by intro c b hb; cases c <;> exact hb
 refine h.frame (bx' := (St.setB st b (.box (cells.map C.nrm))).bx) ?_ ⟨fun _ h => h, fun _ _ => rfl, fun _ _ => rfl, fun _ _ => rfl⟩ (fun _ _ => rfl) ?_ ?_ ?_ h.S_lt h.S_src h.below (fun _ _ => ⟨rfl, rfl, rfl⟩)
 ·intro c hc; simp only [St.setB]; split <;> simp [hc]
 ·intro c k hc
  simp only [St.setB] at hc
  split at hc
  ·rename_i e; subst e; cases hc
   obtain ⟨β, arr, el, g1, g2, g3, g4⟩ := h.blk c _ hb
   refine .inr ⟨⟨β, arr, el, g1, g2, by simpa using g3, fun j u hj => ?_⟩, fun x hx => ?_⟩
   ·rw [List.getElem?_map] at hj
    cases hx : cells[j]? with
    | none => rw [hx] at hj; cases hj
    | some c0 => rw [hx] at hj; cases hj; exact (g4 j c0 hx).nrm
   ·obtain ⟨u, hu, hxu⟩ := Bq.1 hx
    obtain ⟨u0, h0, rfl⟩ := List.mem_map.1 hu
    have := h.liveB c _ hb x (Bq.2 ⟨u0, h0, hC hxu⟩)
    simp only [St.setB]; split
    ·rfl
    ·exact this
  ·exact .inl ⟨hc, fun _ _ _ => rfl⟩
 ·intro c k β hc hr hβ
  simp only [St.setB] at hc
  split at hc
  ·rename_i e; subst e; exact h.at_ok _ _ β hb rfl hβ
  ·exact h.at_ok c k β hc hr hβ
 ·intro c c' k k' β hc hc' hr hr' hβ hβ'
  simp only [St.setB] at hc hc'
  split at hc <;> split at hc'
  ·rename_i e e'; rw [e, e']
  ·rename_i e e'; subst e; exact h.at_inj _ c' _ k' β hb hc' rfl hr' hβ hβ'
  ·rename_i e e'; subst e'; exact h.at_inj c _ k _ β hc hb hr rfl hβ hβ'
  ·exact h.at_inj c c' k k' β hc hc' hr hr' hβ hβ'
end
end Go.Lift

/- A call that is lent the caller's own slices: what it gives back holds none of them. No condition. -/
namespace Go.Lift
open Go.RowKit
variable {P : Program} {X : JY} {ops : Array Oper}
def T.flat : T → Bool
 | .sl _ => false
 | _ => true
def C.flat : C → Bool
 | .pure t => t.flat
 | .own _ => true
 | .any => true
 | _ => false
def E.flat : E → Bool
 | .one c => c.flat
 | .agg cs => cs.all C.flat
def D.flat : D → Bool
 | .e x => x.flat
 | .tup xs => xs.all E.flat
def OU (rv : List (Nat × List (List T))) : Prop := ∀ x, x ∈ rv → ∀ row, row ∈ x.2 → row.all T.flat = true
theorem Cf : OU [] := fun x h => by cases h
theorem E3 {α : Type} {e : Nat} {enc : α → List T} {xs : List α} {rv : List (Nat × List (List T))} (h : ∀ x, (enc x).all T.flat = true) (hr : OU rv) : OU ((e, xs.map enc) :: rv) := by
 intro x hx row hrow
 rcases List.mem_cons.1 hx with e | e
 ·subst e
  obtain ⟨y, _, rfl⟩ := List.mem_map.1 hrow
  exact h y
 ·exact hr x e row hrow
theorem EK.flat {w w' : World} {S S' : Nat → Prop} {v : Value} {t : T} (h : EK w S v t) (hf : t.flat = true) : EK w' S' v t := by
 cases h with
 | val v h => exact .val v h
 | nil0 a => exact .nil0 a
 | nil a c => cases hf
 | sl => cases hf
theorem FT.flat {w w' : World} {G G' : Gh} {v : Value} {c : C} (h : FT P w G v c) (hf : c.flat = true) (hh : ∀ b, G'.hd b = G.hd b) : FT P w' G' v c := by
 cases c with
 | pure t => exact EK.flat h hf
 | own b => exact ⟨by rw [hh]; exact h.1, h.2⟩
 | any => exact h
 | _ => cases hf
theorem Jz.flat {w w' : World} {G G' : Gh} {v : Value} {x : E} (h : Jz P w G v x) (hf : x.flat = true) (hh : ∀ b, G'.hd b = G.hd b) : Jz P w' G' v x := by
 cases x with
 | one c => exact FT.flat h hf hh
 | agg cs =>
  obtain ⟨vs, e, hs, h⟩ := h
  exact ⟨vs, e, hs, fun j c hj => FT.flat (h j c hj) (List.all_eq_true.1 hf c (List.mem_of_getElem? hj)) hh⟩
theorem HH.flat {w w' : World} {G G' : Gh} {v : Value} {d : D} (h : HH P w G v d) (hf : d.flat = true) (hh : ∀ b, G'.hd b = G.hd b) : HH P w' G' v d := by
 cases d with
 | e x => exact Jz.flat h hf hh
 | tup xs =>
  obtain ⟨vs, e, hs, h⟩ := h
  exact ⟨vs, e, hs, fun j c hj => Jz.flat (h j c hj) (List.all_eq_true.1 hf c (List.mem_of_getElem? hj)) hh⟩
def lent : List (Nat × B5) → Nat → Option (List (List T))
 | [], _ => none
 | (k, .vec _ rows) :: bs, b => if k = b then some rows else lent bs b
 | _ :: bs, b => lent bs b
def C.lend (bs : List (Nat × B5)) : C → C
 | .own b => match lent bs b with
  | some rows => .pure (.sl rows)
  | none => .own b
 | c => c
def E.lend (bs : List (Nat × B5)) : E → E
 | .one c => .one (c.lend bs)
 | .agg cs => .agg (cs.map (C.lend bs))
def D.lend (bs : List (Nat × B5)) : D → D
 | .e x => .e (x.lend bs)
 | .tup xs => .tup (xs.map (E.lend bs))
theorem H1 {bx : Nat → Option B5} : ∀ {bs : List (Nat × B5)} {b : Nat} {rows : List (List T)}, Ic bx bs → lent bs b = some rows → ∃ e, bx b = some (.vec e rows)
 | (k, .vec e rows0) :: bs, b, rows, h, hl => by
  simp only [lent] at hl
  split at hl
  ·rename_i hk; cases hl; subst hk; exact ⟨e, h.1⟩
  ·exact H1 h.2 hl
 | (k, .box cs) :: bs, b, rows, h, hl => H1 (bs := bs) h.2 hl
 | (k, .mp es) :: bs, b, rows, h, hl => H1 (bs := bs) h.2 hl
 | (k, .dvec _ _ _) :: bs, b, rows, h, hl => H1 (bs := bs) h.2 hl
 | (k, .hol _ _ _ _ _ _) :: bs, b, rows, h, hl => H1 (bs := bs) h.2 hl
 | (k, .gone) :: bs, b, rows, h, hl => H1 (bs := bs) h.2 hl
theorem QY {w : World} {G G' : Gh} {bs : List (Nat × B5)} {v : Value} {c : C} (h : FT P w G v c) (hG : G.ext G' (fun _ => True)) (hrow : ∀ b rows, lent bs b = some rows → EK w G'.S (G.hd b) (.sl rows)) : FT P w G' v (c.lend bs) := by
 cases c with
 | own b =>
  simp only [C.lend]
  split
  ·rename_i rows hx
   have : v = G.hd b := h.1
   subst this
   exact hrow b rows hx
  ·exact ⟨by rw [hG.hd b trivial]; exact h.1, h.2⟩
 | _ => exact FT.mono h hG (fun _ _ => rfl) (fun _ _ => trivial)
theorem QV {w : World} {G G' : Gh} {bs : List (Nat × B5)} {v : Value} {x : E} (h : Jz P w G v x) (hG : G.ext G' (fun _ => True)) (hrow : ∀ b rows, lent bs b = some rows → EK w G'.S (G.hd b) (.sl rows)) : Jz P w G' v (x.lend bs) := by
 cases x with
 | one c => exact QY h hG hrow
 | agg cs =>
  obtain ⟨vs, e, hs, h⟩ := h
  refine ⟨vs, e, by simp [hs], fun j c hj => ?_⟩
  rw [List.getElem?_map] at hj
  cases hx : cs[j]? with
  | none => rw [hx] at hj; cases hj
  | some c0 => rw [hx] at hj; cases hj; exact QY (h j c0 hx) hG hrow
theorem TW {w : World} {G G' : Gh} {bs : List (Nat × B5)} {v : Value} {d : D} (h : HH P w G v d) (hG : G.ext G' (fun _ => True)) (hrow : ∀ b rows, lent bs b = some rows → EK w G'.S (G.hd b) (.sl rows)) : HH P w G' v (d.lend bs) := by
 cases d with
 | e x => exact QV h hG hrow
 | tup xs =>
  obtain ⟨vs, e, hs, h⟩ := h
  refine ⟨vs, e, by simp [hs], fun j c hj => ?_⟩
  rw [List.getElem?_map] at hj
  cases hx : xs[j]? with
  | none => rw [hx] at hj; cases hj
  | some c0 => rw [hx] at hj; cases hj; exact QV (h j c0 hx) hG hrow
section run
variable {dr : Bool} {Q : St → Prop} {r i : Nat} {st : St} {log : List (Nat × DK)} {o : Oper} {gs : List (Operand × D)}
theorem SR {f s : Nat} {xs : List Operand} {ds0 ds : List D} {rv : List (Nat × List (List T))} {res : D} {ts : Array TypeId} (ns : List Nat) (bs : List (Nat × B5)) (hc : AA P f ds rv res) (hat : At st.env ops i X.n (.call ⟨.value (.func f), xs.toArray, ts⟩) s gs)
  (hf : AE P f = true) (hl : xs.length = ds0.length) (hx : GC st.env (JA xs ds0)) (hbs : Ic st.bx bs) (hds : ds0.map (fun d => (d.lend bs).nrm) = ds) (hpub : ds.all R3 = true) (hns : ns.length = rv.length) (hndl : MS ns) (hnew : M8 st.bx ns) (hfl : res.flat = true) (hfv : OU rv) (hres : res.names.all (fun b => decide (b < rv.length)) = true)
  (next : BA P X ops dr Q r (i + 1) (DK.upd ⟨gs ++ JA xs ds0, bs, some s, some (res.ren (nm ns)), J0 ns rv, ns⟩ st) ((i, ⟨gs ++ JA xs ds0, bs, some s, some (res.ren (nm ns)), J0 ns rv, ns⟩) :: log)) : BA P X ops dr Q (r + 1) i st log := by
 obtain ⟨o, ho, hop, hd, hn, hg, hgp⟩ := hat.out
 have hnd := hndl.1
 subst hds
 refine BA.step next ⟨Aw.2 ⟨hgp, hx⟩, hbs, hnew⟩ ?_
 intro st a w K Q' hs hpre hK
 obtain ⟨G, hs⟩ := hs
 have hx := (Aw.1 hpre.r).2
 have hw := hs.wanted hg (Aw.1 hpre.r).1
 have hnew := hpre.n
 have hbs := hpre.b
 have hnew' : ∀ c, c ∈ ns → st.bx c = none := by
  have : ∀ {l : List Nat}, M8 st.bx l → ∀ c, c ∈ l → st.bx c = none := by
   intro l
   induction l with
   | nil => intro _ c hc; cases hc
   | cons b l ih =>
    intro h c hc
    rcases List.mem_cons.1 hc with e | e
    ·subst e; exact h.1
    ·exact ih h.2 c e
  exact this hnew
 unfold wpOp
 rw [ho]
 simp only [hw, if_true]
 refine .inl ?_
 unfold Oper.wp
 have hrun : (execOp a.eval o).run P w = .ok (.enter f (xs.toArray.map a.eval)) w := by
  simp only [execOp, hop]
  exact IW hf rfl
 rw [hrun]
 show Calls P f (xs.toArray.map a.eval) w _
 let SL : Nat → Prop := fun β => G.S β ∨ ∃ c e rows, st.bx c = some (.vec e rows) ∧ G.loc c = some β
 have hSL : ∀ β, SL β → β < w.heap.size := by
  rintro β (h | ⟨c, e, rows, h1, h2⟩)
  ·exact hs.S_lt β h
  ·exact (hs.at_ok c _ β h1 rfl (.inl h2)).2.1
 have hlrow : ∀ b rows, lent bs b = some rows → EK w SL (G.hd b) (.sl rows) := by
  intro b rows hb
  obtain ⟨e, hb⟩ := H1 hbs hb
  rcases hs.blk b _ hb with ⟨a0, h1, h2, _⟩ | ⟨β, cap, arr, el, h0, h1, h2, h3, h4, h5, h6⟩
  ·rw [h1, h2]; exact .nil _ _
  ·rw [h1]
   exact .sl β 0 cap e arr el (0, 0) rows (.inr ⟨b, e, rows, hb, h0⟩) h2 h3 (by rw [h4, Nat.zero_add]; exact Nat.mul_le_mul_right e h3) h5 (fun i row j t hi hj => by rw [Nat.zero_add]; exact (h6 i row j t hi hj).mono (fun _ _ => rfl) (fun β h => .inl h))
 refine (hc w SL (xs.toArray.map a.eval) hSL (by simpa using hl) ?_).mono ?_
 ·intro j d hj
  obtain ⟨d0, hj0, rfl⟩ : ∃ d0, ds0[j]? = some d0 ∧ (d0.lend bs).nrm = d := by
   rw [List.getElem?_map] at hj
   cases hx0 : ds0[j]? with
   | none => rw [hx0] at hj; cases hj
   | some d0 => rw [hx0] at hj; cases hj; exact ⟨d0, rfl, rfl⟩
  have hlt := AV hj0
  have hxj : xs[j]? = some (xs[j]'(by omega)) := by simp [show j < xs.length from by omega]
  have hop' := JE hl hx j _ d0 hxj hj0
  have hcell : AF (xs.toArray.map a.eval) j = a.eval (xs[j]'(by omega)) := by simp [AF, show j < xs.length from by omega]
  rw [hcell]
  refine (HH.nrm (TW (G' := { G with S := SL }) (hs.opd hop') ⟨fun β h => .inl h, fun _ _ => rfl, fun _ _ => rfl, fun _ _ => rfl⟩ hlrow)).closed ?_ (fun _ h => h)
  have := List.all_eq_true.1 hpub _ (List.mem_of_getElem? hj)
  simpa [R3] using this
 ·rintro e w' ⟨v, G', rfl, hbel, hS1, hS2, hres', hvec, hvat, hvinj⟩
  show K (a.put o.dst v) w'
  rw [hd]
  -- the ghost of the caller
  let G2 : Gh := { S := fun β => G.S β ∨ (w.heap.size ≤ β ∧ G'.S β), loc := fun c => if c ∈ ns then G'.loc (ns.idxOf c) else G.loc c, hd := fun c => if c ∈ ns then G'.hd (ns.idxOf c) else G.hd c, more := fun c => if c ∈ ns then G'.more (ns.idxOf c) else G.more c }
  have hidx : ∀ k, k < ns.length → ns.idxOf (nm ns k) = k := by
   intro k hk
   have hm := FX hk
   have h1 : ns.idxOf (nm ns k) < ns.length := List.idxOf_lt_length_of_mem hm
   refine N6 hnd h1 hk ?_
   have h2 := List.getElem_idxOf h1
   show ns.getD (ns.idxOf (nm ns k)) 0 = nm ns k
   rw [List.getD_eq_getElem?_getD, List.getElem?_eq_getElem h1, Option.getD_some, h2]
  have hloc : ∀ b, b < ns.length → G2.loc (nm ns b) = G'.loc b := fun b hb => by simp only [G2]; rw [if_pos (FX hb), hidx b hb]
  have hhd : ∀ b, b < ns.length → G2.hd (nm ns b) = G'.hd b := fun b hb => by simp only [G2]; rw [if_pos (FX hb), hidx b hb]
  have hmore : ∀ b, b < ns.length → G2.more (nm ns b) = G'.more b := fun b hb => by simp only [G2]; rw [if_pos (FX hb), hidx b hb]
  let G3 : Gh := { S := G2.S, loc := G'.loc, hd := G'.hd, more := G'.more }
  have hvia3 : G3.via G2 (nm ns) (fun b => b < ns.length) := ⟨fun β h => h, hloc, hhd, hmore⟩
  have hhas : ∀ b β, b < ns.length → (G2.has (nm ns b) β ↔ G'.has b β) := fun b β hb => hvia3.has (G := G3) hb
  have hext : G.ext G2 (fun b => (st.bx b).isSome = true) := by
   have : ∀ b, (st.bx b).isSome = true → b ∉ ns := fun b hb hm => by rw [hnew' b hm] at hb; cases hb
   exact ⟨fun β h => .inl h, fun b hb => by simp only [G2]; rw [if_neg (this b hb)], fun b hb => by simp only [G2]; rw [if_neg (this b hb)], fun b hb => by simp only [G2]; rw [if_neg (this b hb)]⟩
  have hwS : ∀ β, G.S β → w'.heap[β]? = w.heap[β]? := fun β hβ => hbel.block β (hs.S_lt β hβ)
  have hsz := hbel.size
  have hle := hs.below.size
  have hS3 : ∀ β, G2.S β → G.S β ∨ (w.heap.size ≤ β ∧ β < w'.heap.size) := fun β h => by
   rcases h with h | ⟨h0, h⟩
   ·exact .inl h
   ·rcases hS2 β h with h1 | h1
    ·have := hSL β h1; omega
    ·exact .inr h1
  have hvg := fun c => Lp (bx := st.bx) (ns := ns) (rv := rv) (c := c) hns hnd
  have hblk : ∀ c k, BW st.bx (J0 ns rv) c = some k → (c ∉ ns ∧ st.bx c = some k) ∨ (∃ m x, m < ns.length ∧ nm ns m = c ∧ rv[m]? = some x ∧ k = .vec x.1 x.2) := by
   intro c k hc
   by_cases hm : c ∈ ns
   ·obtain ⟨m, hm1, hm2⟩ := ML hm
    have hrx : rv[m]? = some (rv[m]'(by omega)) := by simp [show m < rv.length from by omega]
    have := (hvg c).2 m _ hrx
    rw [hm2, hc] at this
    exact .inr ⟨m, _, hm1, hm2, hrx, by simpa using this⟩
   ·rw [(hvg c).1 hm] at hc; exact .inl ⟨hm, hc⟩
  have key : Eg P X G2 ⟨st.env, BW st.bx (J0 ns rv)⟩ a w' := by
   refine hs.frame ?_ hext hwS ?_ ?_ ?_ ?_ ?_ (hs.below.trans (.of (hbel.mono hle))) (fun b hb => by
    have : b ∉ ns := fun hm => by rw [hndl.2 b hm] at hb; cases hb
    simp only [G2]; rw [if_neg this, if_neg this, if_neg this]; exact ⟨rfl, rfl, rfl⟩)
   ·intro c hc
    have hm : c ∉ ns := fun hm => by rw [hnew' c hm] at hc; cases hc
    rw [(hvg c).1 hm]; exact hc
   ·intro c k hc
    rcases hblk c k hc with ⟨_, h1⟩ | ⟨m, x, h1, h2, h3, h4⟩
    ·exact .inl ⟨h1, fun β hr hβ => hbel.block β (hs.at_ok c k β h1 hr hβ).2.1⟩
    ·subst h4
     refine .inr ⟨?_, fun c hc => by cases hc⟩
     rw [← h2]
     have hv3 : Gj P w' G3 m (.vec x.1 x.2) := by
      rcases hvec m x h3 with ⟨a0, g1, g2, g3⟩ | ⟨β, cap, arr, el, g0, g1, g2, g3, g4, g5, g6⟩
      ·exact .inl ⟨a0, g1, g2, g3⟩
      ·exact .inr ⟨β, cap, arr, el, g0, g1, g2, g3, g4, g5, fun i row j t hi hj => (g6 i row j t hi hj).flat (List.all_eq_true.1 (hfv x (List.mem_of_getElem? h3) row (List.mem_of_getElem? hi)) t (List.mem_of_getElem? hj))⟩
     exact hv3.ren hvia3 h1 (fun c hc => by cases hc)
   ·intro c k β hc hr hβ
    rcases hblk c k hc with ⟨h0, h1⟩ | ⟨m, x, h1, h2, h3, h4⟩
    ·have hβ := (hext.has (by rw [h1]; rfl)).1 hβ
     have := hs.at_ok c k β h1 hr hβ
     refine ⟨this.1, by omega, fun h => ?_⟩
     rcases hS3 β h with h | h
     ·exact this.2.2 h
     ·omega
    ·rw [← h2, hhas m _ h1] at hβ
     have := hvat m β (by omega) hβ
     exact ⟨.new (by omega), this.2.1, fun h => this.2.2 (by
      rcases h with h | h
      ·exact hS1 β (.inl h)
      ·exact h.2)⟩
   ·intro c c' k k' β hc hc' hr hr' hβ hβ'
    rcases hblk c k hc with ⟨h0, h1⟩ | ⟨m, x, h1, h2, h3, h4⟩ <;> rcases hblk c' k' hc' with ⟨h0', h1'⟩ | ⟨m', x', h1', h2', h3', h4'⟩
    ·have hβ := (hext.has (by rw [h1]; rfl)).1 hβ
     have hβ' := (hext.has (by rw [h1']; rfl)).1 hβ'
     exact hs.at_inj c c' k k' β h1 h1' hr hr' hβ hβ'
    ·have hβ := (hext.has (by rw [h1]; rfl)).1 hβ
     rw [← h2', hhas m' _ h1'] at hβ'
     have h5 := hvat m' β (by omega) hβ'
     have h6 := (hs.at_ok c k β h1 hr hβ).2.1
     omega
    ·have hβ' := (hext.has (by rw [h1']; rfl)).1 hβ'
     rw [← h2, hhas m _ h1] at hβ
     have h5 := hvat m β (by omega) hβ
     have h6 := (hs.at_ok c' k' β h1' hr' hβ').2.1
     omega
    ·rw [← h2, hhas m _ h1] at hβ
     rw [← h2', hhas m' _ h1'] at hβ'
     have := hvinj m m' β (by omega) (by omega) hβ hβ'
     rw [← h2, ← h2', this]
   ·intro β h
    rcases hS3 β h with h | h
    ·have := hs.S_lt β h; omega
    ·exact h.2
   ·intro β h
    rcases hS3 β h with h | h
    ·exact hs.S_src β h
    ·exact .inr (by omega)
  have hrn : ∀ b, b ∈ res.names → b < ns.length := fun b hb => by
   have := List.all_eq_true.1 hres b hb
   rw [hns]; simpa using this
  refine hK _ _ ⟨G2, key.put (some s) (some (res.ren (nm ns))) v (by intro t e; cases e; exact hn) ?_⟩
  rintro d ⟨⟩
  refine ⟨((hres'.flat (G' := G3) hfl fun _ => rfl)).ren hvia3 hrn, fun b hb => ?_⟩
  obtain ⟨b0, h1, h2⟩ := Kn hb
  have hrx : rv[b0]? = some (rv[b0]'(by have := hrn b0 h1; omega)) := by simp [show b0 < rv.length from by have := hrn b0 h1; omega]
  show (BW st.bx (J0 ns rv) b).isSome = true
  rw [h2, (hvg b).2 b0 _ hrx]; rfl
abbrev uD : D := .tup []
theorem VJ {w : World} {G : Gh} : HH P w G undef uD := ⟨#[], rfl, rfl, fun j x h => by simp at h⟩
theorem Rs {j t s : Nat} {want : Bool} {d0 : D} (h : Us ops i X.n = some (j, s, t, want)) (hx : st.env t = some d0) (hv : ∀ w G v, HH P w G v d0 → v ≠ .bool want)
  (next : BA P X ops dr Q r (i + 1) (DK.upd ⟨[(.tmp t, d0)], [], some s, some uD, [], []⟩ st) ((i, ⟨[(.tmp t, d0)], [], some s, some uD, [], []⟩) :: log)) : BA P X ops dr Q (r + 1) i st log := by
 unfold Us at h
 split at h
 ·rename_i o ho
  split at h
  ·rename_i j' want' s' hg hd
   split at h
   ·rename_i t' ht
    split at h
    ·rename_i hb
     cases h
     refine BA.step next ⟨⟨hx, trivial⟩, trivial, trivial⟩ ?_
     intro st a w K Q hs hpre hK
     obtain ⟨G, hs⟩ := hs
     have h2 := hv _ _ _ (hs.env t _ hpre.r.1)
     have hw : Region.wanted o (yielded ops a.tmps) = false := by
      simp only [Region.wanted, hg, yielded, ht]
      simp only [Option.bind_some, beq_eq_false_iff_ne]
      intro e
      cases hy : a.tmps[t]? with
      | none => rw [hy] at e; cases e
      | some v =>
       have h3 : AF a.tmps t = v := by simp [AF, hy]
       rw [h3] at h2
       rw [hy] at e
       cases v <;> simp at e
       exact h2 (by rw [e])
     unfold wpOp
     rw [ho]
     simp only [hw, Bool.false_eq_true, if_false]
     rw [hd]
     exact hK _ _ ⟨G, hs.put (some s) (some uD) undef (by intro t e; cases e; exact Pt hb) (by rintro d ⟨⟩; exact ⟨VJ, fun b hb => by cases hb⟩)⟩
    ·cases h
   ·cases h
  ·cases h
 ·cases h
theorem Ud {j t s : Nat} {want : Bool} (h : Us ops i X.n = some (j, s, t, want)) (hx : st.env t = some (bD (!want)))
  (next : BA P X ops dr Q r (i + 1) (DK.upd ⟨[(.tmp t, bD (!want))], [], some s, some uD, [], []⟩ st) ((i, ⟨[(.tmp t, bD (!want))], [], some s, some uD, [], []⟩) :: log)) : BA P X ops dr Q (r + 1) i st log :=
 Rs h hx (fun w G v hv => by
  have h1 : EK w G.S v (.val (.bool (!want))) := hv
  cases h1; cases want <;> simp) next
theorem T6 {j t s : Nat} {want : Bool} (h : Us ops i X.n = some (j, s, t, want)) (hx : st.env t = some uD)
  (next : BA P X ops dr Q r (i + 1) (DK.upd ⟨[(.tmp t, uD)], [], some s, some uD, [], []⟩ st) ((i, ⟨[(.tmp t, uD)], [], some s, some uD, [], []⟩) :: log)) : BA P X ops dr Q (r + 1) i st log :=
 Rs h hx (fun w G v hv => by obtain ⟨vs, e, _⟩ := hv; rw [e]; simp) next
end run
end Go.Lift

/- A box given over to sharing; a slice against nil; two structs against each other; functions as values. No condition. -/
namespace Go.Lift
open Go.RowKit
variable {P : Program} {X : JY} {ops : Array Oper}
def C.fzb (b : Nat) (ts : List T) : C → C
 | .own c => if c = b then .any else .own c
 | .ptr c k => if c = b then (if k ≤ ts.length then .rop (ts.drop k) else .any) else .ptr c k
 | .eptr c e i k => if c = b then .any else .eptr c e i k
 | .view c e lo len => if c = b then .any else .view c e lo len
 | .mref c => if c = b then .any else .mref c
 | c => c
def E.fzb (b : Nat) (ts : List T) : E → E
 | .one c => .one (c.fzb b ts)
 | .agg cs => .agg (cs.map (C.fzb b ts))
def D.fzb (b : Nat) (ts : List T) : D → D
 | .e x => .e (x.fzb b ts)
 | .tup xs => .tup (xs.map (E.fzb b ts))
def B5.fzb (b : Nat) (ts : List T) : B5 → B5
 | .box cs => .box (cs.map (C.fzb b ts))
 | .hol e cols i k c rs => if c = b then .gone else .hol e cols i k c rs
 | k => k
def St.fzb (st : St) (b : Nat) (ts : List T) : St :=
 ⟨fun s => (st.env s).map (D.fzb b ts), fun c => if c = b then none else (st.bx c).map (B5.fzb b ts)⟩
theorem RD {w : World} {G : Gh} {b : Nat} {ts : List T} {S' : Nat → Prop} {v : Value} {c : C} (h : FT P w G v c) (hS : ∀ β, G.S β → S' β) (hrow : ∀ β, G.loc b = some β → ∃ arr el fz, S' β ∧ w.heap[β]? = some (.cells arr el fz) ∧ arr.size = ts.length ∧ ∀ (j : Nat) (t : T), ts[j]? = some t → EK w S' (AF arr j) t) : FT P w { G with S := S' } v (c.fzb b ts) := by
 cases c with
 | pure t => exact EK.mono h (fun _ _ => rfl) hS
 | own c =>
  simp only [C.fzb]
  split
  ·exact FT.one h
  ·exact h
 | ptr c k =>
  simp only [C.fzb]
  split
  ·rename_i e; subst e
   split
   ·rename_i hk
    obtain ⟨β, hβ, rfl⟩ := h
    obtain ⟨arr, el, fz, h1, h2, h3, h4⟩ := hrow β hβ
    refine ⟨β, k, arr, el, fz, rfl, h1, h2, by simp; omega, fun j t hj => ?_⟩
    rw [List.getElem?_drop] at hj
    exact h4 _ t hj
   ·exact FT.one ((show FT P w G v (.ptr c k) from h))
  ·exact h
 | eptr c e i k =>
  simp only [C.fzb]
  split
  ·exact FT.one h
  ·exact h
 | view c e lo len =>
  simp only [C.fzb]
  split
  ·exact FT.one h
  ·exact h
 | mref c =>
  simp only [C.fzb]
  split
  ·exact FT.one h
  ·exact h
 | rop ts =>
  obtain ⟨β, off, arr, el, fz, h1, h2, h3, h4, h5⟩ := h
  exact ⟨β, off, arr, el, fz, h1, hS _ h2, h3, h4, fun j t hj => (h5 j t hj).mono (fun _ _ => rfl) hS⟩
 | clo g => exact Lg.mono h (fun _ _ => rfl) hS
 | any => exact h
 | nilq p => exact h
 | fnc f => exact h
theorem Tl {w : World} {G : Gh} {b : Nat} {ts : List T} {S' : Nat → Prop} {v : Value} {x : E} (h : Jz P w G v x) (hS : ∀ β, G.S β → S' β) (hrow : ∀ β, G.loc b = some β → ∃ arr el fz, S' β ∧ w.heap[β]? = some (.cells arr el fz) ∧ arr.size = ts.length ∧ ∀ (j : Nat) (t : T), ts[j]? = some t → EK w S' (AF arr j) t) : Jz P w { G with S := S' } v (x.fzb b ts) := by
 cases x with
 | one c => exact RD h hS hrow
 | agg cs =>
  obtain ⟨vs, e, hs, h⟩ := h
  refine ⟨vs, e, by simp [hs], fun j c hj => ?_⟩
  rw [List.getElem?_map] at hj
  cases hx : cs[j]? with
  | none => rw [hx] at hj; cases hj
  | some c0 => rw [hx] at hj; cases hj; exact RD (h j c0 hx) hS hrow
theorem UK {w : World} {G : Gh} {b : Nat} {ts : List T} {S' : Nat → Prop} {v : Value} {d : D} (h : HH P w G v d) (hS : ∀ β, G.S β → S' β) (hrow : ∀ β, G.loc b = some β → ∃ arr el fz, S' β ∧ w.heap[β]? = some (.cells arr el fz) ∧ arr.size = ts.length ∧ ∀ (j : Nat) (t : T), ts[j]? = some t → EK w S' (AF arr j) t) : HH P w { G with S := S' } v (d.fzb b ts) := by
 cases d with
 | e x => exact Tl h hS hrow
 | tup xs =>
  obtain ⟨vs, e, hs, h⟩ := h
  refine ⟨vs, e, by simp [hs], fun j c hj => ?_⟩
  rw [List.getElem?_map] at hj
  cases hx : xs[j]? with
  | none => rw [hx] at hj; cases hj
  | some c0 => rw [hx] at hj; cases hj; exact Tl (h j c0 hx) hS hrow
theorem L7 {b : Nat} {ts : List T} {c : C} {x : Nat} (h : x ∈ (c.fzb b ts).names) : x ∈ c.names ∧ x ≠ b := by
 cases c with
 | own c =>
  simp only [C.fzb] at h
  split at h
  ·cases h
  ·rename_i e; simp [C.names] at h ⊢; subst h; exact ⟨rfl, e⟩
 | ptr c k =>
  simp only [C.fzb] at h
  split at h
  ·split at h <;> cases h
  ·rename_i e; simp [C.names] at h ⊢; subst h; exact ⟨rfl, e⟩
 | eptr c e i k =>
  simp only [C.fzb] at h
  split at h
  ·cases h
  ·rename_i e; simp [C.names] at h ⊢; subst h; exact ⟨rfl, e⟩
 | view c e lo len =>
  simp only [C.fzb] at h
  split at h
  ·cases h
  ·rename_i e; simp [C.names] at h ⊢; subst h; exact ⟨rfl, e⟩
 | mref c =>
  simp only [C.fzb] at h
  split at h
  ·cases h
  ·rename_i e; simp [C.names] at h ⊢; subst h; exact ⟨rfl, e⟩
 | _ => cases h
theorem M3 {b : Nat} {ts : List T} {cs : List C} {x : Nat} (h : x ∈ EY (cs.map (C.fzb b ts))) : x ∈ EY cs ∧ x ≠ b := by
 obtain ⟨c, hc, hx⟩ := Bq.1 h
 obtain ⟨c0, h0, rfl⟩ := List.mem_map.1 hc
 obtain ⟨h1, h2⟩ := L7 hx
 exact ⟨Bq.2 ⟨c0, h0, h1⟩, h2⟩
theorem LZ {b : Nat} {ts : List T} {y : E} {x : Nat} (h : x ∈ (y.fzb b ts).names) : x ∈ y.names ∧ x ≠ b := by
 cases y with
 | one c => exact L7 h
 | agg cs => exact M3 h
theorem OW {b : Nat} {ts : List T} {d : D} {x : Nat} (h : x ∈ (d.fzb b ts).names) : x ∈ d.names ∧ x ≠ b := by
 cases d with
 | e y => exact LZ h
 | tup xs =>
  obtain ⟨c, hc, hx⟩ := E4.1 h
  obtain ⟨c0, h0, rfl⟩ := List.mem_map.1 hc
  obtain ⟨h1, h2⟩ := LZ hx
  exact ⟨E4.2 ⟨c0, h0, h1⟩, h2⟩
theorem K8 {st : St} (b : Nat) (ts : List T) (hb : st.bx b = some (.box (ts.map .pure))) (hlt : Cx b = false) : G7 P X st (st.fzb b ts) := by
 rintro a w ⟨G, h⟩
 let S' : Nat → Prop := fun β => G.S β ∨ G.loc b = some β
 have hS : ∀ β, G.S β → S' β := fun β h => .inl h
 have hrow : ∀ β, G.loc b = some β → ∃ arr el fz, S' β ∧ w.heap[β]? = some (.cells arr el fz) ∧ arr.size = ts.length ∧ ∀ (j : Nat) (t : T), ts[j]? = some t → EK w S' (AF arr j) t := by
  intro β hβ
  obtain ⟨β', arr, el, h1, h2, h3, h4⟩ := h.blk b _ hb
  rw [hβ] at h1; cases h1
  refine ⟨arr, el, (0, 0), .inr hβ, h2, by simpa using h3, fun j t hj => ?_⟩
  have : FT P w G (AF arr j) (.pure t) := h4 j (.pure t) (by simp [hj])
  exact EK.mono this (fun _ _ => rfl) hS
 have hbk : ∀ c k, (st.fzb b ts).bx c = some k → c ≠ b ∧ ∃ k0, st.bx c = some k0 ∧ k = k0.fzb b ts := fun c k hc => by
  simp only [St.fzb] at hc
  split at hc
  ·cases hc
  ·rename_i e
   cases hx : st.bx c with
   | none => rw [hx] at hc; cases hc
   | some k0 => rw [hx] at hc; exact ⟨e, k0, rfl, by simpa using hc.symm⟩
 have hreal : ∀ k : B5, (k.fzb b ts).real = true → k.real = true := fun k hk => by
  cases k <;> first | rfl | exact hk
 have hlv : ∀ c, (st.bx c).isSome = true → c ≠ b → ((st.fzb b ts).bx c).isSome = true := fun c hc hne => by
  simp only [St.fzb]; rw [if_neg hne]; simpa using hc
 refine ⟨{ G with S := S' }, ?_⟩
 refine { S_lt := ?_, S_src := ?_, S_0 := fun β hβ => .inl (h.S_0 β hβ), S0_lt := h.S0_lt, tsz := h.tsz, defers := h.defers, below := h.below, nlt := h.nlt, lent := h.lent, blk := ?_, at_ok := ?_, at_inj := ?_, env := ?_, live := ?_, liveB := ?_ }
 ·rintro β (hβ | hβ)
  ·exact h.S_lt β hβ
  ·exact (h.at_ok b _ β hb rfl (.inl hβ)).2.1
 ·rintro β (hβ | hβ)
  ·exact h.S_src β hβ
  ·exact .inr ((h.at_ok b _ β hb rfl (.inl hβ)).1.1 hlt)
 ·intro c k hc
  obtain ⟨hne, k0, h0, rfl⟩ := hbk c k hc
  have := h.blk c k0 h0
  cases k0 with
  | box cells =>
   obtain ⟨β, arr, el, h1, h2, h3, h4⟩ := this
   refine ⟨β, arr, el, h1, h2, by simp [h3], fun j u hj => ?_⟩
   rw [List.getElem?_map] at hj
   cases hx : cells[j]? with
   | none => rw [hx] at hj; cases hj
   | some c0 => rw [hx] at hj; cases hj; exact RD (h4 j c0 hx) hS hrow
  | vec e' rows' =>
   rcases this with h1 | ⟨β, cap, arr, el, h0, h1, h2, h3, h4, h5, h6⟩
   ·exact .inl h1
   ·exact .inr ⟨β, cap, arr, el, h0, h1, h2, h3, h4, h5, fun i row j t hi hj => (h6 i row j t hi hj).mono (fun _ _ => rfl) hS⟩
  | mp es =>
   obtain ⟨β, arr, clock, h1, h2, h3, h4⟩ := this
   exact ⟨β, arr, clock, h1, h2, h3, fun i x hi => by
    obtain ⟨m, e1, e2, e3⟩ := h4 i x hi
    exact ⟨m, e1, e2, e3.mono (fun _ _ => rfl) hS⟩⟩
  | dvec e cols rs =>
   rcases this with h1 | ⟨β, cap, arr, el, Rf, h0, h1, h2, h3, h4, h5, h6, h7, h8, h9⟩
   ·exact .inl h1
   ·exact .inr ⟨β, cap, arr, el, Rf, h0, h1, h2, h3, h4, h5, fun i row j t hi hj => (h6 i row j t hi hj).mono (fun _ _ => rfl) hS (fun _ h => h), h7, h8, h9⟩
  | hol e cols i0 k1 c1 rs =>
   simp only [B5.fzb]
   split
   ·trivial
   ·obtain ⟨β, cap, arr, el, Rf, h0, h1, h2, h3, h4, h5, h6, h7, h8, h9, h10, h11⟩ := this
    exact ⟨β, cap, arr, el, Rf, h0, h1, h2, h3, h4, h5, fun i row j t hi hj hne => (h6 i row j t hi hj hne).mono (fun _ _ => rfl) hS (fun _ h => h), h7, h8, h9, h10, h11⟩
  | gone => trivial
 ·intro c k β hc hr hβ
  obtain ⟨hne, k0, h0, rfl⟩ := hbk c k hc
  have hr := hreal _ hr
  have h1 := h.at_ok c k0 β h0 hr hβ
  refine ⟨h1.1, h1.2.1, ?_⟩
  rintro (h2 | h2)
  ·exact h1.2.2 h2
  ·exact hne (h.at_inj c b k0 _ β h0 hb hr rfl hβ (.inl h2))
 ·intro c c' k k' β hc hc' hr hr' hβ hβ'
  obtain ⟨_, k0, h0, rfl⟩ := hbk c k hc
  obtain ⟨_, k0', h0', rfl⟩ := hbk c' k' hc'
  have hr := hreal _ hr
  have hr' := hreal _ hr'
  exact h.at_inj c c' k0 k0' β h0 h0' hr hr' hβ hβ'
 ·intro s d hs
  simp only [St.fzb] at hs
  cases hx : st.env s with
  | none => rw [hx] at hs; cases hs
  | some d0 => rw [hx] at hs; cases hs; exact UK (h.env s d0 hx) hS hrow
 ·intro s d hs c hc
  simp only [St.fzb] at hs
  cases hx : st.env s with
  | none => rw [hx] at hs; cases hs
  | some d0 =>
   rw [hx] at hs; cases hs
   obtain ⟨h1, h2⟩ := OW hc
   exact hlv c (h.live s d0 hx c h1) h2
 ·intro c k hc x hx
  obtain ⟨_, k0, h0, rfl⟩ := hbk c k hc
  cases k0 with
  | box cells =>
   obtain ⟨h1, h2⟩ := M3 hx
   exact hlv x (h.liveB c _ h0 x h1) h2
  | vec e' rows' => cases hx
  | mp es => cases hx
  | dvec e cols rs => cases hx
  | hol e cols i0 k1 c1 rs =>
   simp only [B5.fzb] at hx
   split at hx
   ·cases hx
   ·rename_i hne
    have hx' : x = c1 := by simpa [B5.names] using hx
    subst hx'
    exact hlv x (h.liveB c _ h0 x (by simp [B5.names])) hne
  | gone => cases hx
end Go.Lift

/- A slice against nil; two structs against each other; functions ar values. No condition. -/
namespace Go.Lift
open Go.RowKit
variable {P : Program} {X : JY} {ops : Array Oper}
def Jn (P : Program) : Nat → List Field → Option (List Nat)
 | _, [] => some []
 | k, f :: fs => if f.name == "_" || f.offset != k then none else match P.underlying f.type with
  | some (.int _) => (Jn P (k + 1) fs).map (0 :: ·)
  | some .bool => (Jn P (k + 1) fs).map (1 :: ·)
  | some .string => (Jn P (k + 1) fs).map (2 :: ·)
  | _ => none
def Qj (P : Program) (t : TypeId) : Option (List Nat) :=
 match P.underlying t with
 | some (.struct fs) => if P.stoodInHeld t || P.eqGuardType P.depth t then none else Jn P 0 fs.toList
 | _ => none
def FA : List Nat → List Value → List Value → Option Bool
 | [], [], [] => some true
 | 0 :: ts, .int k a :: ar, .int k' b :: bs => if k = k' then (FA ts ar bs).map (fun r => (a == b) && r) else none
 | 1 :: ts, .bool a :: ar, .bool b :: bs => (FA ts ar bs).map (fun r => (a == b) && r)
 | 2 :: ts, .string a :: ar, .string b :: bs => (FA ts ar bs).map (fun r => (a.toList == b.toList) && r)
 | _, _, _ => none
theorem QU {ts : List Nat} {ar bs : List Value} {r : Bool} (h : FA (0 :: ts) ar bs = some r) : ∃ k a ar' b bs' r', ar = .int k a :: ar' ∧ bs = .int k b :: bs' ∧ FA ts ar' bs' = some r' ∧ r = ((a == b) && r') := by
 unfold FA at h
 split at h <;> try (exfalso; simp_all; done)
 rename_i ts' k a ar' k' b bs' e
 cases e
 split at h
 ·rename_i e; subst e
  cases hel : FA ts ar' bs' with
  | none => rw [hel] at h; cases h
  | some r' =>
   rw [hel] at h
   exact ⟨k, a, ar', b, bs', r', rfl, rfl, hel, by simpa using h.symm⟩
 ·cases h
theorem Q8 {ts : List Nat} {ar bs : List Value} {r : Bool} (h : FA (1 :: ts) ar bs = some r) : ∃ a ar' b bs' r', ar = .bool a :: ar' ∧ bs = .bool b :: bs' ∧ FA ts ar' bs' = some r' ∧ r = ((a == b) && r') := by
 unfold FA at h
 split at h <;> try (exfalso; simp_all; done)
 rename_i ts' a ar' b bs' e
 cases e
 cases hel : FA ts ar' bs' with
 | none => rw [hel] at h; cases h
 | some r' =>
  rw [hel] at h
  exact ⟨a, ar', b, bs', r', rfl, rfl, hel, by simpa using h.symm⟩
theorem Q3 {ts : List Nat} {ar bs : List Value} {r : Bool} (h : FA (2 :: ts) ar bs = some r) : ∃ a ar' b bs' r', ar = .string a :: ar' ∧ bs = .string b :: bs' ∧ FA ts ar' bs' = some r' ∧ r = ((a.toList == b.toList) && r') := by
 unfold FA at h
 split at h <;> try (exfalso; simp_all; done)
 rename_i ts' a ar' b bs' e
 cases e
 cases hel : FA ts ar' bs' with
 | none => rw [hel] at h; cases h
 | some r' =>
  rw [hel] at h
  exact ⟨a, ar', b, bs', r', rfl, rfl, hel, by simpa using h.symm⟩
theorem NE {t : TypeId} (h : E9 P t false = true) {cs : Array Value} {off : Nat} {v : Value} (hv : cs[off]? = some v) (w : World) : (part t cs off).run P w = .ok v w := by
 unfold part
 refine As (IA h w) ?_
 simp only [Bool.false_eq_true, if_false, hv]
 rfl
theorem M1 (d : Nat) (xs ys : Array Value) (w : World) : ∀ (fs : List Field) (ts : List Nat) (k : Nat) (ar bs : List Value) (r : Bool), Jn P k fs = some ts → (∀ (j : Nat) (v : Value), ar[j]? = some v → xs[k + j]? = some v) → (∀ (j : Nat) (v : Value), bs[j]? = some v → ys[k + j]? = some v) → FA ts ar bs = some r →
  (Op.eqFields (d + 1) xs ys fs).run P w = .ok r w
 | [], ts, k, ar, bs, r, ht, hx, hy, he => by
  cases ht
  cases ar <;> cases bs <;> simp [FA] at he
  subst he; rfl
 | f :: fs, ts, k, ar, bs, r, ht, hx, hy, he => by
  simp only [Jn] at ht
  split at ht
  ·cases ht
  ·rename_i hn
   simp only [Bool.or_eq_true, not_or, beq_iff_eq, bne_iff_ne, ne_eq, Decidable.not_not] at hn
   obtain ⟨hn1, hn2⟩ := hn
   subst hn2
   have step : ∀ (ts' : List Nat) (a b : Value) (ar' bs' : List Value) (q r' : Bool), ar = a :: ar' → bs = b :: bs' → Jn P (f.offset + 1) fs = some ts' → FA ts' ar' bs' = some r' → E9 P f.type false = true → (Op.equalIn (d + 1) f.type a b).run P w = .ok q w →
     (Op.eqFields (d + 1) xs ys (f :: fs)).run P w = .ok (q && r') w := by
    intro ts' a b ar' bs' q r' ha hb htl hel hag heq
    subst ha; subst hb
    have h1 : xs[f.offset]? = some a := hx 0 a rfl
    have h2 : ys[f.offset]? = some b := hy 0 b rfl
    simp only [Op.eqFields, hn1, ne_eq, not_false_eq_true, if_true]
    refine As (NE hag h1 w) (As (NE hag h2 w) (As heq ?_))
    cases q
    ·simp
    ·simp only [Bool.not_true, Bool.false_eq_true, if_false, Bool.true_and]
     exact M1 d xs ys w fs ts' (f.offset + 1) ar' bs' r' htl (fun j v hj => by rw [show f.offset + 1 + j = f.offset + (j + 1) from by omega]; exact hx (j + 1) v hj) (fun j v hj => by rw [show f.offset + 1 + j = f.offset + (j + 1) from by omega]; exact hy (j + 1) v hj) hel
   split at ht
   ·rename_i kk hu
    cases htl : Jn P (f.offset + 1) fs with
    | none => rw [htl] at ht; cases ht
    | some ts' =>
     rw [htl] at ht; cases ht
     obtain ⟨k1, a1, ar', b1, bs', r', e1, e2, hel, rfl⟩ := QU he
     subst e1; subst e2
     exact step ts' _ _ ar' bs' _ r' rfl rfl htl hel (by unfold E9; rw [hu]; rfl) (run_equalIn_int w d f.type k1 kk a1 b1 hu)
   ·rename_i hu
    cases htl : Jn P (f.offset + 1) fs with
    | none => rw [htl] at ht; cases ht
    | some ts' =>
     rw [htl] at ht; cases ht
     obtain ⟨a1, ar', b1, bs', r', e1, e2, hel, rfl⟩ := Q8 he
     subst e1; subst e2
     exact step ts' _ _ ar' bs' _ r' rfl rfl htl hel (by unfold E9; rw [hu]; rfl) (run_equalIn_bool' w d f.type a1 b1 hu)
   ·rename_i hu
    cases htl : Jn P (f.offset + 1) fs with
    | none => rw [htl] at ht; cases ht
    | some ts' =>
     rw [htl] at ht; cases ht
     obtain ⟨a1, ar', b1, bs', r', e1, e2, hel, rfl⟩ := Q3 he
     subst e1; subst e2
     exact step ts' _ _ ar' bs' _ r' rfl rfl htl hel (by unfold E9; rw [hu]; rfl) (run_equalIn_string w d f.type a1 b1 hu)
   ·cases ht
theorem Ld {t : TypeId} {ts : List Nat} (h : Qj P t = some ts) {ar bs : List Value} {r : Bool} (hr : FA ts ar bs = some r) (w : World) :
  (Op.equalIn 10000 t (.agg ar.toArray) (.agg bs.toArray)).run P w = .ok r w ∧ P.eqGuardType P.depth t = false := by
 unfold Qj at h
 split at h
 ·rename_i fs hu
  split at h
  ·cases h
  ·rename_i hn
   simp only [Bool.or_eq_true, not_or, Bool.not_eq_true] at hn
   have hf : P.fieldsOf t = fs := by unfold Program.fieldsOf; rw [hu]
   refine ⟨?_, hn.2⟩
   rw [run_equalIn_struct w 9999 t _ _ (by rw [hf]; exact hu) hn.1, hf]
   exact M1 9998 _ _ w fs.toList ts 0 ar bs r h (fun j v hj => by simpa using hj) (fun j v hj => by simpa using hj) hr
 ·cases h
abbrev aD (ar : List Value) : D := .e (.agg (ar.map fun v => .pure (.val v)))
theorem Ou {w : World} {G : Gh} {v : Value} {ar : List Value} (h : HH P w G v (aD ar)) : v = .agg ar.toArray := by
 obtain ⟨vs, rfl, hs, h⟩ := h
 congr 1
 have hs' : vs.size = ar.length := by simpa using hs
 apply Array.ext
 ·simpa using hs'
 ·intro j h1 h2
  have hj : j < ar.length := by omega
  have : FT P w G (AF vs j) (.pure (.val ar[j])) := h j _ (by simp [hj])
  have h3 := Fw (this : EK w G.S _ (.val _))
  simpa [AF, h1] using h3
section run
variable {dr : Bool} {Q : St → Prop} {r i : Nat} {st : St} {log : List (Nat × DK)} {o : Oper} {gs : List (Operand × D)}
theorem QH {xt yt : TypeId} {x y : Operand} {s : Nat} {ts : List Nat} {b : Bool} (ar bs : List Value) (hat : At st.env ops i X.n (.binOp .eql xt x y yt) s gs)
  (hx : opd st.env x = some (aD ar)) (hy : opd st.env y = some (aD bs)) (ht : Qj P xt = some ts) (he : FA ts ar bs = some b)
  (next : BA P X ops dr Q r (i + 1) (DK.upd ⟨gs ++ [(x, aD ar), (y, aD bs)], [], some s, some (bD b), [], []⟩ st) ((i, ⟨gs ++ [(x, aD ar), (y, aD bs)], [], some s, some (bD b), [], []⟩) :: log)) : BA P X ops dr Q (r + 1) i st log := by
 obtain ⟨o, ho, hop, hd, hn, hg, hgp⟩ := hat.out
 refine BA.step next ⟨Aw.2 ⟨hgp, hx, hy, trivial⟩, trivial, trivial⟩ (LR.value ho hg rfl hd.symm (Ec hd hn) ?_)
 intro G st a w hs hpre
 obtain ⟨hx, hy, _⟩ := (Aw.1 hpre.r).2
 have hX := Ou (hs.opd hx)
 have hY := Ou (hs.opd hy)
 obtain ⟨h1, h2⟩ := Ld ht he w
 refine ⟨.bool b, w, G, ?_, hs, ?_⟩
 ·simp only [execOp, hop, hX, hY]
  refine As (a := .bool b) (w1 := w) (As (run_eqGuard_agg w .eql xt x y _ _ h2) ?_) rfl
  rw [run_eql_struct, h1]; rfl
 ·rintro d ⟨⟩
  exact ⟨.val _ rfl, fun b hb => by cases hb⟩
theorem To {xt yt : TypeId} {x y : Operand} {s : Nat} {ts : List Nat} {b : Bool} (ar bs : List Value) (hat : At st.env ops i X.n (.binOp .neq xt x y yt) s gs)
  (hx : opd st.env x = some (aD ar)) (hy : opd st.env y = some (aD bs)) (ht : Qj P xt = some ts) (he : FA ts ar bs = some b)
  (next : BA P X ops dr Q r (i + 1) (DK.upd ⟨gs ++ [(x, aD ar), (y, aD bs)], [], some s, some (bD (!b)), [], []⟩ st) ((i, ⟨gs ++ [(x, aD ar), (y, aD bs)], [], some s, some (bD (!b)), [], []⟩) :: log)) : BA P X ops dr Q (r + 1) i st log := by
 obtain ⟨o, ho, hop, hd, hn, hg, hgp⟩ := hat.out
 refine BA.step next ⟨Aw.2 ⟨hgp, hx, hy, trivial⟩, trivial, trivial⟩ (LR.value ho hg rfl hd.symm (Ec hd hn) ?_)
 intro G st a w hs hpre
 obtain ⟨hx, hy, _⟩ := (Aw.1 hpre.r).2
 have hX := Ou (hs.opd hx)
 have hY := Ou (hs.opd hy)
 obtain ⟨h1, h2⟩ := Ld ht he w
 refine ⟨.bool (!b), w, G, ?_, hs, ?_⟩
 ·simp only [execOp, hop, hX, hY]
  refine As (a := .bool (!b)) (w1 := w) (As (run_eqGuard_agg w .neq xt x y _ _ h2) ?_) rfl
  rw [run_neq_struct, h1]; rfl
 ·rintro d ⟨⟩
  exact ⟨.val _ rfl, fun b hb => by cases hb⟩
theorem PW {xt yt : TypeId} {x : Operand} {s e : Nat} {rows : List (List T)} (hat : At st.env ops i X.n (.binOp .eql xt x (.const (.slice none 0 0)) yt) s gs)
  (hx : opd st.env x = some (one (.sl rows))) (ht : sliceB P xt e = true)
  (next : BA P X ops dr Q r (i + 1) (DK.upd ⟨gs ++ [(x, one (.sl rows))], [], some s, some (.e (.one (.nilq (rows = [])))), [], []⟩ st) ((i, ⟨gs ++ [(x, one (.sl rows))], [], some s, some (.e (.one (.nilq (rows = [])))), [], []⟩) :: log)) : BA P X ops dr Q (r + 1) i st log := by
 obtain ⟨o, ho, hop, hd, hn, hg, hgp⟩ := hat.out
 refine BA.step next ⟨Aw.2 ⟨hgp, hx, trivial⟩, trivial, trivial⟩ (LR.value ho hg rfl hd.symm (Ec hd hn) ?_)
 intro G st a w hs hpre
 obtain ⟨hx, _⟩ := (Aw.1 hpre.r).2
 have hX : EK w G.S (a.eval x) (.sl rows) := hs.opd hx
 obtain ⟨av, l, c, hv, hq⟩ : ∃ av l c, a.eval x = .slice av l c ∧ (av.isNone = true → rows = []) := by
  generalize a.eval x = v at hX
  cases hX with
  | nil av cap => exact ⟨av, 0, cap, rfl, fun _ => rfl⟩
  | sl β off cap e arr el fz rows h1 h2 h3 h4 h5 h6 => exact ⟨_, _, _, rfl, fun h => by cases h⟩
 have hu : P.underlying xt = some (.slice e) := by
  unfold sliceB at ht
  split at ht
  ·rename_i e' he; rw [he]; simp at ht; rw [ht]
  ·cases ht
 refine ⟨.bool av.isNone, w, G, ?_, hs, ?_⟩
 ·simp only [execOp, hop, hv]
  refine As (a := .bool av.isNone) (w1 := w) (As (a := ()) (w1 := w) (by simp [eqGuard]) ?_) rfl
  have h1 : (Op.equalIn (9999 + 1) xt (.slice av l c) (.slice none 0 0)).run P w = .ok av.isNone w := by
   generalize 9999 = dd
   cases av <;> (unfold Op.equalIn; exact As (AX hu w) rfl)
  simp only [binOp, Act.eval]
  refine As (a := av.isNone) (w1 := w) ?_ rfl
  exact h1
 ·rintro d ⟨⟩
  exact ⟨⟨_, rfl, hq⟩, fun b hb => by cases hb⟩
end run
theorem Qe {c : Operand} {x y : Code} {Q : Exit → St → Prop} {st : St} {p : Prop} (hc : opd st.env c = some (.e (.one (.nilq p)))) (ht : p → W P X x Q st) (hf : W P X y Q st) : W P X (.cond c x y) Q st := by
 intro a w hs
 obtain ⟨b, hcv, hp⟩ : ∃ b, a.eval c = .bool b ∧ (b = true → p) := by
  obtain ⟨G, hs⟩ := hs
  exact hs.opd hc
 cases b with
 | true => exact wp_cond_true hcv (ht (hp rfl) a w hs)
 | false => exact wp_cond_false hcv (hf a w hs)
end Go.Lift

