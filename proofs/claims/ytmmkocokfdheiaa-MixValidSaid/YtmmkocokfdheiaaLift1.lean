/- Lemmas for MixValidSaid, which YtmmkocokfdheiaaFin7 proves. -/
/- A program logic over the model's code in which values are read as trees: what a state of a function is said to be, and how a world is read. No condition. -/
import Derived.WalkKit

import Derived.Orders
import Derived.Below
namespace Go.Lift
open Go.RowKit

/-- A value that never changes any more, read as a tree. -/
inductive T where
  | val (v : Value)
  | nil0
  | sl (rows : List (List T))

def oneC : Value → Bool
  | .agg _ => false
  | .tuple _ => false
  | _ => true

def cellAt (arr : Array Value) (k : Nat) : Value := arr[k]?.getD undef

theorem cellAt_some {arr : Array Value} {k : Nat} (h : k < arr.size) : arr[k]? = some (cellAt arr k) := by
  simp [cellAt, h]

/-- The value v reads as the tree; only blocks of S are looked at. -/
inductive RdT (w : World) (S : Nat → Prop) : Value → T → Prop where
  | val (v : Value) (h : oneC v = true) : RdT w S v (.val v)
  | nil0 (a : Option Addr) : RdT w S (.slice a 0 0) .nil0
  | nil (a : Option Addr) (cap : Nat) : RdT w S (.slice a 0 cap) (.sl [])
  | sl (β off cap e : Nat) (arr : Array Value) (el : TypeId) (fz : Nat × Nat) (rows : List (List T))
      (hS : S β) (hb : w.heap[β]? = some (.cells arr el fz)) (hcap : rows.length ≤ cap) (hsz : off + rows.length * e ≤ arr.size)
      (hrow : ∀ (i : Nat) (row : List T), rows[i]? = some row → row.length = e)
      (hcell : ∀ (i : Nat) (row : List T) (j : Nat) (t : T), rows[i]? = some row → row[j]? = some t → RdT w S (cellAt arr (off + i * e + j)) t) :
      RdT w S (.slice (some ⟨β, off, none⟩) rows.length cap) (.sl rows)

theorem RdT.mono {w w' : World} {S S' : Nat → Prop} {v : Value} {t : T} (h : RdT w S v t)
    (hw : ∀ β, S β → w'.heap[β]? = w.heap[β]?) (hS : ∀ β, S β → S' β) : RdT w' S' v t := by
  induction h with
  | val v h => exact .val v h
  | nil0 a => exact .nil0 a
  | nil a cap => exact .nil a cap
  | sl β off cap e arr el fz rows h1 h2 h3 h4 h5 _ ih =>
    exact .sl β off cap e arr el fz rows (hS _ h1) (by rw [hw _ h1]; exact h2) h3 h4 h5 ih

theorem RdT.one {w : World} {S : Nat → Prop} {v : Value} {t : T} (h : RdT w S v t) : oneC v = true := by
  cases h <;> first | assumption | rfl

/-- What one cell, or a value of one cell, is known to hold. -/
inductive C where
  | pure (t : T)
  | own (b : Nat)
  | ptr (b k : Nat)
  | eptr (b e i k : Nat)
  | rop (ts : List T)
  | clo (g : List (Bool × List T) → Option T)
  | any
  | nilq (p : Prop)
  | fnc (f : Nat)

inductive E where
  | one (c : C)
  | agg (cs : List C)

inductive D where
  | e (x : E)
  | tup (xs : List E)

inductive Blk where
  | box (cells : List C)
  | vec (e : Nat) (rows : List (List T))
  | gone

def C.names : C → List Nat
  | .own b => [b]
  | .ptr b _ => [b]
  | .eptr b _ _ _ => [b]
  | _ => []
def cnames : List C → List Nat
  | [] => []
  | c :: cs => c.names ++ cnames cs
def E.names : E → List Nat
  | .one c => c.names
  | .agg cs => cnames cs
def enames : List E → List Nat
  | [] => []
  | x :: xs => x.names ++ enames xs
def D.names : D → List Nat
  | .e x => x.names
  | .tup xs => enames xs
def Blk.names : Blk → List Nat
  | .box cs => cnames cs
  | _ => []
def Blk.real : Blk → Bool
  | .gone => false
  | _ => true

theorem mem_cnames {b : Nat} : ∀ {cs : List C}, b ∈ cnames cs ↔ ∃ c, c ∈ cs ∧ b ∈ c.names
  | [] => by simp [cnames]
  | c :: cs => by simp [cnames, mem_cnames (cs := cs)]
theorem mem_enames {b : Nat} : ∀ {xs : List E}, b ∈ enames xs ↔ ∃ x, x ∈ xs ∧ b ∈ x.names
  | [] => by simp [enames]
  | c :: cs => by simp [enames, mem_enames (xs := cs)]

/-- Where the names lie. -/
structure Gh where
  S : Nat → Prop
  loc : Nat → Option Nat
  hd : Nat → Value

/-- One argument of a closure: a value of one cell, or a struct's cells. -/
def RdA (w : World) (S : Nat → Prop) (v : Value) : Bool × List T → Prop
  | (false, ts) => ∃ t, ts = [t] ∧ RdT w S v t
  | (true, ts) => ∃ vs, v = .agg vs ∧ vs.size = ts.length ∧ ∀ (j : Nat) (t : T), ts[j]? = some t → RdT w S (cellAt vs j) t

def CloOk (P : Program) (w : World) (S : Nat → Prop) (v : Value) (g : List (Bool × List T) → Option T) : Prop :=
  ∃ f caps, v = .func (.func f) #[] caps ∧ (∃ fn, P.funcs[f]? = some fn ∧ fn.body.isSome = true ∧ (fn.name == "runtime.NumGoroutine") = false) ∧
    ∀ (w' : World) (S' : Nat → Prop), (∀ β, S β → S' β) → (∀ β, S β → w'.heap[β]? = w.heap[β]?) → (∀ β, S' β → β < w'.heap.size) →
    ∀ (vs : Array Value) (as : List (Bool × List T)) (r : T), vs.size = as.length → (∀ (j : Nat) (x : Bool × List T), as[j]? = some x → RdA w' S' (cellAt vs j) x) → g as = some r →
      Calls P f (vs ++ caps) w' fun e w'' => ∃ v' S'', e = .returned v' ∧ Below w'.heap.size w' w'' ∧ (∀ β, S' β → S'' β) ∧ (∀ β, S'' β → S' β ∨ (w'.heap.size ≤ β ∧ β < w''.heap.size)) ∧ RdT w'' S'' v' r

variable (P : Program)

def RdC (w : World) (G : Gh) (v : Value) : C → Prop
  | .pure t => RdT w G.S v t
  | .own b => v = G.hd b ∧ ∃ a l c, v = .slice a l c
  | .ptr b k => ∃ β, G.loc b = some β ∧ v = .pointer (some ⟨β, k, none⟩)
  | .eptr b e i k => ∃ β, G.loc b = some β ∧ v = .pointer (some ⟨β, i * e + k, none⟩)
  | .rop ts => ∃ β off arr el fz, v = .pointer (some ⟨β, off, none⟩) ∧ G.S β ∧ w.heap[β]? = some (.cells arr el fz) ∧ off + ts.length ≤ arr.size ∧
      ∀ (j : Nat) (t : T), ts[j]? = some t → RdT w G.S (cellAt arr (off + j)) t
  | .clo g => CloOk P w G.S v g
  | .any => oneC v = true
  | .nilq p => ∃ b, v = .bool b ∧ (b = true → p)
  | .fnc f => v = .func (.func f) #[] #[]

def RdE (w : World) (G : Gh) (v : Value) : E → Prop
  | .one c => RdC P w G v c
  | .agg cs => ∃ vs, v = .agg vs ∧ vs.size = cs.length ∧ ∀ (j : Nat) (c : C), cs[j]? = some c → RdC P w G (cellAt vs j) c

def RdD (w : World) (G : Gh) (v : Value) : D → Prop
  | .e x => RdE P w G v x
  | .tup xs => ∃ vs, v = .tuple vs ∧ vs.size = xs.length ∧ ∀ (j : Nat) (x : E), xs[j]? = some x → RdE P w G (cellAt vs j) x

def BlkOk (w : World) (G : Gh) (b : Nat) : Blk → Prop
  | .box cells => ∃ β arr el, G.loc b = some β ∧ w.heap[β]? = some (.cells arr el (0, 0)) ∧ arr.size = cells.length ∧ ∀ (j : Nat) (c : C), cells[j]? = some c → RdC P w G (cellAt arr j) c
  | .vec e rows => (∃ a, G.hd b = .slice a 0 0 ∧ rows = [] ∧ G.loc b = none) ∨
      (∃ β cap arr el, G.loc b = some β ∧ G.hd b = .slice (some ⟨β, 0, none⟩) rows.length cap ∧ w.heap[β]? = some (.cells arr el (0, 0)) ∧ rows.length ≤ cap ∧ arr.size = cap * e ∧
        (∀ (i : Nat) (row : List T), rows[i]? = some row → row.length = e) ∧ ∀ (i : Nat) (row : List T) (j : Nat) (t : T), rows[i]? = some row → row[j]? = some t → RdT w G.S (cellAt arr (i * e + j)) t)
  | .gone => True

variable {P}

theorem RdA.mono {w w' : World} {S S' : Nat → Prop} {v : Value} {x : Bool × List T} (h : RdA w S v x)
    (hw : ∀ β, S β → w'.heap[β]? = w.heap[β]?) (hS : ∀ β, S β → S' β) : RdA w' S' v x := by
  obtain ⟨b, ts⟩ := x
  cases b
  · obtain ⟨t, e, h⟩ := h; exact ⟨t, e, h.mono hw hS⟩
  · obtain ⟨vs, e, hs, h⟩ := h; exact ⟨vs, e, hs, fun j t hj => (h j t hj).mono hw hS⟩

theorem CloOk.mono {w w' : World} {S S' : Nat → Prop} {v : Value} {g : List (Bool × List T) → Option T} (h : CloOk P w S v g)
    (hw : ∀ β, S β → w'.heap[β]? = w.heap[β]?) (hS : ∀ β, S β → S' β) : CloOk P w' S' v g := by
  obtain ⟨f, caps, e, hf, h⟩ := h
  exact ⟨f, caps, e, hf, fun w2 S2 h1 h2 h3 => h w2 S2 (fun β hβ => h1 β (hS β hβ)) (fun β hβ => (h2 β (hS β hβ)).trans (hw β hβ)) h3⟩

/-- The ghost G' knows all that G knows of the names of which p speaks. -/
structure Gh.ext (G G' : Gh) (p : Nat → Prop) : Prop where
  S : ∀ β, G.S β → G'.S β
  loc : ∀ b, p b → G'.loc b = G.loc b
  hd : ∀ b, p b → G'.hd b = G.hd b

theorem RdC.mono {w w' : World} {G G' : Gh} {p : Nat → Prop} {v : Value} {c : C} (h : RdC P w G v c) (hG : G.ext G' p)
    (hw : ∀ β, G.S β → w'.heap[β]? = w.heap[β]?) (hp : ∀ b, b ∈ c.names → p b) : RdC P w' G' v c := by
  cases c with
  | pure t => exact RdT.mono h hw hG.S
  | own b => exact ⟨by rw [hG.hd b (hp b (by simp [C.names]))]; exact h.1, h.2⟩
  | ptr b k => obtain ⟨β, h1, h2⟩ := h; exact ⟨β, by rw [hG.loc b (hp b (by simp [C.names]))]; exact h1, h2⟩
  | eptr b e i k => obtain ⟨β, h1, h2⟩ := h; exact ⟨β, by rw [hG.loc b (hp b (by simp [C.names]))]; exact h1, h2⟩
  | rop ts =>
    obtain ⟨β, off, arr, el, fz, h1, h2, h3, h4, h5⟩ := h
    exact ⟨β, off, arr, el, fz, h1, hG.S _ h2, by rw [hw _ h2]; exact h3, h4, fun j t hj => (h5 j t hj).mono hw hG.S⟩
  | clo g => exact CloOk.mono h hw hG.S
  | any => exact h
  | nilq p => exact h
  | fnc f => exact h

theorem mem_of_getElem?_some {α : Type} {l : List α} {j : Nat} {x : α} (h : l[j]? = some x) : x ∈ l := List.mem_of_getElem? h

theorem RdE.mono {w w' : World} {G G' : Gh} {p : Nat → Prop} {v : Value} {x : E} (h : RdE P w G v x) (hG : G.ext G' p)
    (hw : ∀ β, G.S β → w'.heap[β]? = w.heap[β]?) (hp : ∀ b, b ∈ x.names → p b) : RdE P w' G' v x := by
  cases x with
  | one c => exact RdC.mono h hG hw hp
  | agg cs =>
    obtain ⟨vs, e, hs, h⟩ := h
    exact ⟨vs, e, hs, fun j c hj => (h j c hj).mono hG hw fun b hb => hp b (mem_cnames.2 ⟨c, List.mem_of_getElem? hj, hb⟩)⟩

theorem RdD.mono {w w' : World} {G G' : Gh} {p : Nat → Prop} {v : Value} {d : D} (h : RdD P w G v d) (hG : G.ext G' p)
    (hw : ∀ β, G.S β → w'.heap[β]? = w.heap[β]?) (hp : ∀ b, b ∈ d.names → p b) : RdD P w' G' v d := by
  cases d with
  | e x => exact RdE.mono h hG hw hp
  | tup xs =>
    obtain ⟨vs, e, hs, h⟩ := h
    exact ⟨vs, e, hs, fun j x hj => (h j x hj).mono hG hw fun b hb => hp b (mem_enames.2 ⟨x, List.mem_of_getElem? hj, hb⟩)⟩

theorem RdC.one {w : World} {G : Gh} {v : Value} {c : C} (h : RdC P w G v c) : oneC v = true := by
  cases c with
  | pure t => exact RdT.one h
  | own b => obtain ⟨_, a, l, c, rfl⟩ := h; rfl
  | ptr b k => obtain ⟨β, _, rfl⟩ := h; rfl
  | eptr b e i k => obtain ⟨β, _, rfl⟩ := h; rfl
  | rop ts => obtain ⟨β, off, arr, el, fz, rfl, _⟩ := h; rfl
  | clo g => obtain ⟨f, caps, rfl, _⟩ := h; rfl
  | any => exact h
  | nilq p => obtain ⟨b, rfl, _⟩ := h; rfl
  | fnc f => cases h; rfl

/-- A block's reading survives what changes neither it nor the blocks of S. -/
theorem BlkOk.mono {w w' : World} {G G' : Gh} {p : Nat → Prop} {b : Nat} {k : Blk} (h : BlkOk P w G b k) (hG : G.ext G' p) (hb : p b)
    (hw : ∀ β, G.S β → w'.heap[β]? = w.heap[β]?) (hbw : ∀ β, k.real = true → G.loc b = some β → w'.heap[β]? = w.heap[β]?) (hp : ∀ c, c ∈ k.names → p c) : BlkOk P w' G' b k := by
  cases k with
  | box cells =>
    obtain ⟨β, arr, el, h1, h2, h3, h4⟩ := h
    exact ⟨β, arr, el, by rw [hG.loc b hb]; exact h1, by rw [hbw β rfl h1]; exact h2, h3, fun j c hj => (h4 j c hj).mono hG hw fun x hx => hp x (mem_cnames.2 ⟨c, List.mem_of_getElem? hj, hx⟩)⟩
  | vec e rows =>
    rcases h with ⟨a, h1, h2, h3⟩ | ⟨β, cap, arr, el, h0, h1, h2, h3, h4, h5, h6⟩
    · exact .inl ⟨a, by rw [hG.hd b hb]; exact h1, h2, by rw [hG.loc b hb]; exact h3⟩
    · exact .inr ⟨β, cap, arr, el, by rw [hG.loc b hb]; exact h0, by rw [hG.hd b hb]; exact h1, by rw [hbw β rfl h0]; exact h2, h3, h4, h5, fun i row j t hi hj => (h6 i row j t hi hj).mono hw hG.S⟩
  | gone => trivial

structure St where
  env : Nat → Option D
  bx : Nat → Option Blk

/-- What is fixed during one call: the world in which it began, the shared blocks of its arguments, the number of its slots. -/
structure Ctx where
  w0 : World
  S0 : Nat → Prop
  n : Nat

structure SimG (P : Program) (X : Ctx) (G : Gh) (st : St) (a : Act) (w : World) : Prop where
  S_lt : ∀ β, G.S β → β < w.heap.size
  S_src : ∀ β, G.S β → X.S0 β ∨ X.w0.heap.size ≤ β
  S_0 : ∀ β, X.S0 β → G.S β
  S0_lt : ∀ β, X.S0 β → β < X.w0.heap.size
  blk : ∀ b k, st.bx b = some k → BlkOk P w G b k
  at_ok : ∀ b k β, st.bx b = some k → k.real = true → G.loc b = some β → X.w0.heap.size ≤ β ∧ β < w.heap.size ∧ ¬ G.S β
  at_inj : ∀ b c k l β, st.bx b = some k → st.bx c = some l → k.real = true → l.real = true → G.loc b = some β → G.loc c = some β → b = c
  env : ∀ s d, st.env s = some d → RdD P w G (cellAt a.tmps s) d
  live : ∀ s d, st.env s = some d → ∀ b, b ∈ d.names → (st.bx b).isSome = true
  liveB : ∀ b k, st.bx b = some k → ∀ c, c ∈ k.names → (st.bx c).isSome = true
  tsz : a.tmps.size = X.n
  defers : a.defers = []
  below : Below X.w0.heap.size X.w0 w

def Sim (P : Program) (X : Ctx) (st : St) (a : Act) (w : World) : Prop := ∃ G, SimG P X G st a w

/-- An operand of a region. -/
def T.of (v : Value) : T := match v with
  | .slice none 0 0 => .nil0
  | v => .val v
def opd (env : Nat → Option D) : Operand → Option D
  | .tmp t => env t
  | .const v => if oneC v then some (.e (.one (.pure (.of v)))) else none
  | .func f => some (.e (.one (.fnc f)))
  | _ => none

theorem RdT.of {w : World} {S : Nat → Prop} {v : Value} (h : oneC v = true) : RdT w S v (.of v) := by
  unfold T.of; split
  · exact .nil0 none
  · exact .val _ h

theorem SimG.opd {X : Ctx} {G : Gh} {st : St} {a : Act} {w : World} (h : SimG P X G st a w) {x : Operand} {d : D} (hx : opd st.env x = some d) :
    RdD P w G (a.eval x) d := by
  cases x with
  | tmp t => have := h.env t d hx; simpa [cellAt, Act.eval] using this
  | const v =>
    simp only [Lift.opd] at hx
    split at hx
    · rename_i hv; cases hx; exact RdT.of hv
    · cases hx
  | global g => cases hx
  | func f => cases hx; rfl

theorem SimG.opd_live {X : Ctx} {G : Gh} {st : St} {a : Act} {w : World} (h : SimG P X G st a w) {x : Operand} {d : D} (hx : Lift.opd st.env x = some d) :
    ∀ b, b ∈ d.names → (st.bx b).isSome = true := by
  cases x with
  | tmp t => exact h.live t d hx
  | const v =>
    simp only [Lift.opd] at hx
    split at hx
    · cases hx; intro b hb; simp [D.names, E.names, C.names] at hb
    · cases hx
  | global g => cases hx
  | func f => cases hx; intro b hb; simp [D.names, E.names, C.names] at hb

end Go.Lift
